/- RemapPlays: the law's walk. -/
import Derived.Test.YtnfpfpppnfighaaDoorPE
namespace Go.Proofs.YtnfpfpppnfighaaDoor
open Go.Shelf Go.RowKit Go.Maps Go.Lib
set_option linter.unusedVariables false
set_option linter.unusedSimpArgs false
set_option maxRecDepth 100000
/-- Both maps answer alike. -/
theorem ref_alike (most : Int) (m : MF) (over : Bool) (e : Bool) (n : Int) (t : List UInt8) :
    rE most (ents m) ⟨e, n⟩ t = setE most m e n t ∧ rL most (ents m) ⟨e, n⟩ t = ents (setM most m e n t) ∧ rO most (ents m) over ⟨e, n⟩ t = setO most m over e n t := by
  unfold rE rL rO setE setM setO
  by_cases hm : mayB e n = true
  · obtain ⟨a, ha, hlt⟩ : ∃ a : Nat, n = (a : Int) ∧ a < 256 := by
      have := hm
      unfold mayB at this
      simp only [Bool.and_eq_true, decide_eq_true_eq] at this
      exact ⟨n.toNat, by omega, by omega⟩
    have hp := refPut_ents m ⟨e, n⟩ t hm
    simp only at hp
    simp only [hm, if_true, hp, usedS_ents]
    by_cases ht : t = []
    · simp [ht]
    · have h2 := tot_put m e a hlt (some t)
      rw [← ha] at h2
      rw [show costO (some t) = 3 + t.length from rfl] at h2
      simp only [if_neg ht]
      by_cases ho : most < (tot m : Int) - costO (m e n) + 3 + t.length
      · have : t ≠ [] ∧ most < ((tot (m.put e n (some t)) : Nat) : Int) := ⟨ht, by omega⟩
        rw [if_pos this, if_pos this, if_pos this, if_pos ho, if_pos ho, if_pos ho]
        exact ⟨rfl, rfl, rfl⟩
      · have : ¬ (t ≠ [] ∧ most < ((tot (m.put e n (some t)) : Nat) : Int)) := fun h => ho (by have := h.2; omega)
        rw [if_neg this, if_neg this, if_neg this, if_neg ho, if_neg ho, if_neg ho]
        exact ⟨rfl, rfl, rfl⟩
  · have hm' : mayB e n = false := by simpa using hm
    simp [hm']
/-- The document's map: its block, its list. -/
structure Doc (W : World) (base q : Nat) (v : Value) (L : List EntD) (most : Int) (over : Bool) : Prop where
  blk : W.heap[q]? = some (.cells #[v, .int .i64 most, .bool over] 54 (0, 0))
  own : OwnD W base v L
  lo : base ≤ q
theorem Doc.later {W W' : World} {base q : Nat} {v : Value} {L : List EntD} {most : Int} {over : Bool} (h : Doc W base q v L most over) (hb : Below W.heap.size W W') : Doc W' base q v L most over :=
  ⟨(hb.block q (Array.getElem?_eq_some_iff.1 h.blk).1).trans h.blk, h.own.call hb, h.lo⟩
theorem Doc.ne {W : World} {base q : Nat} {v : Value} {L : List EntD} {most : Int} {over : Bool} (h : Doc W base q v L most over) {base' p b N : Nat} {most' : Int} {m : MF} {over' : Bool} (hm : MObj W base' p b N most' m over') : q ≠ p ∧ q ≠ b := by
  constructor
  · rintro rfl
    have := h.blk.symm.trans hm.blk
    simp at this
  · rintro rfl
    obtain ⟨es, clock, hh⟩ := hm.map.block
    have := h.blk.symm.trans hh
    simp at this
theorem Doc.to {W W' : World} {base q p b : Nat} {v : Value} {L : List EntD} {most : Int} {over : Bool} (h : Doc W base q v L most over) (hto : TO p b W W') {base' N : Nat} {most' : Int} {m : MF} {over' : Bool} (hm : MObj W base' p b N most' m over') : Doc W' base q v L most over := by
  obtain ⟨h1, h2⟩ := h.ne hm
  refine ⟨(hto.block q (Array.getElem?_eq_some_iff.1 h.blk).1 h1 h2).trans h.blk, h.own.blocks fun k hk => ?_, h.lo⟩
  obtain ⟨_, cs, hc⟩ := h.own.own hk
  refine hto.block k (Array.getElem?_eq_some_iff.1 hc).1 ?_ ?_
  · rintro rfl
    have := hc.symm.trans hm.blk
    simp at this
  · rintro rfl
    obtain ⟨es, clock, hh⟩ := hm.map.block
    have := hc.symm.trans hh
    simp at this
theorem MObj.t1 {W W' : World} {base p b N q : Nat} {most : Int} {m : MF} {over : Bool} (h : MObj W base p b N most m over) (ht : T1 q W W') (h1 : p ≠ q) (h2 : b ≠ q) : MObj W' base p b N most m over :=
  ⟨(ht.block p h.lt h1).trans h.blk, h.map.kept (ht.block b h.map.lt h2), h.lo⟩
theorem T1.cell {q k o : Nat} {w w' : World} {v : Value} (h : T1 q w w') (h1 : k ≠ q) (hc : w.cell? ⟨k, o, none⟩ = some v) : w'.cell? ⟨k, o, none⟩ = some v :=
  (World.cell?_of_block (h.block k (World.block_lt_of_cell? w ⟨k, o, none⟩ hc) h1)).trans hc
theorem Doc.cells {W : World} {base q : Nat} {v : Value} {L : List EntD} {most : Int} {over : Bool} (h : Doc W base q v L most over) : (W.cell? ⟨q, 0, none⟩ = some v ∧ W.cell? ⟨q, 1, none⟩ = some (.int .i64 most) ∧ W.cell? ⟨q, 2, none⟩ = some (.bool over)) ∧ ∀ o, W.frozen? ⟨q, o, none⟩ = false :=
  ⟨⟨by simp [World.cell?, h.blk], by simp [World.cell?, h.blk], by simp [World.cell?, h.blk]⟩, fun o => Lib.frozen_of_heap h.blk o⟩
set_option maxHeartbeats 40000000 in
theorem plays_walk (w : World) (htab : Tab w) (most : Int) (lv : Value) (l : List OpD) (hL : OpsAt w lv l) :
    Calls Tryd.prog 8 #[.int .i64 most, lv] w fun e w' => e = .returned (.bool true) ∧ Below w.heap.size w w' := by
  have HA := Lib.hid (fun W (hb : Below w.heap.size w W) => awake_any W (tab_below htab W hb))
  have HOps := Lib.hid hL
  obtain ⟨ad, cap, hlv, -⟩ := id hL
  clear htab
  by_cases hb : most < 0 ∨ 4096 < most
  · have HNew := Lib.hid (new_bad w most hb)
    clear hL
    rw [hlv]
    have hw : most < 0 ∨ (¬ most < 0 ∧ 4096 < most) := by omega
    clear hb
    rcases hw with h1 | ⟨h1, h2⟩
    all_goals (
      go_enter Tryd.func8, Tryd.ntmps8
      go_wp2_with fail
      refine HNew.out.mono ?_
      rintro r w1 ⟨rfl, rfl⟩
      go_wp2_with fail
      refine (HA.out _ (Below.refl _ _)).mono ?_
      rintro r w2 ⟨rfl, hb2⟩
      go_wp2_with fail
      go_ret
      exact ⟨rfl, hb2⟩)
  · have g1 : ¬ most < 0 := fun h => hb (.inl h)
    have g2 : ¬ 4096 < most := fun h => hb (.inr h)
    have HNew := Lib.hid (new_any w most g1 g2)
    have HFew := Lib.hid (fun W (hb : Below w.heap.size w W) => few_any W lv l (hL.later hb))
    have Hlv := Lib.hid hlv
    obtain ⟨N, hN⟩ : ∃ N, l.length = N := ⟨_, rfl⟩
    have HN := Lib.hid hN
    rw [hN] at hlv
    clear hL hb hN
    subst hlv
    cases hf : fewB l with
    | false =>
      rw [hf] at HFew
      clear hf
      go_enter Tryd.func8, Tryd.ntmps8
      go_wp2_with fail
      refine HNew.out.mono ?_
      rintro r w1 ⟨rfl, hO1, hb1⟩
      have Hb1 := Lib.hid hb1
      clear hb1 hO1
      go_wp2_with fail
      refine (HFew.out _ Hb1.out).mono ?_
      rintro r w2 ⟨rfl, rfl⟩
      go_wp2_with fail
      refine (HA.out _ Hb1.out).mono ?_
      rintro r w3 ⟨rfl, hb3⟩
      go_wp2_with fail
      go_ret
      exact ⟨rfl, bel_call Hb1.out hb3⟩
    | true =>
      rw [hf] at HFew
      have HfT := Lib.hid (fun k hk => few_text hf k hk)
      have hN60 : N ≤ 60 := by have := few_num hf; rw [HN.out] at this; exact this
      clear hf
      go_enter Tryd.func8, Tryd.ntmps8
      go_wp2_with fail
      refine HNew.out.mono ?_
      rintro r w1 ⟨rfl, hO1, hb1⟩
      have HO1 := Lib.hid hO1
      have Hb1 := Lib.hid hb1
      clear hb1 hO1
      obtain ⟨base, hba⟩ : ∃ base, w.heap.size = base := ⟨_, rfl⟩
      have HBa := Lib.hid hba
      obtain ⟨p, hp⟩ : ∃ p, w.heap.size + 1 = p := ⟨_, rfl⟩
      rw [hp] at HO1 ⊢
      rw [hba] at HO1
      have HP := Lib.hid (show base ≤ p from by omega)
      clear hp hba
      go_wp2_with fail
      refine (HFew.out _ Hb1.out).mono ?_
      rintro r w2 ⟨rfl, rfl⟩
      go_wp2_with fail
      have H3 := Lib.hid (show MObj (w2.alloc (.cells #[.slice none 0 0, .int .i64 most, .bool false] 54)) base p base 0 most (fun _ _ => none) false ∧ Doc (w2.alloc (.cells #[.slice none 0 0, .int .i64 most, .bool false] 54)) base w2.heap.size (.slice none 0 0) (ents (fun _ _ => none)) most false ∧ Below w.heap.size w (w2.alloc (.cells #[.slice none 0 0, .int .i64 most, .bool false] 54)) from by
        have hb := bel_alloc (Below.refl w2.heap.size w2) (.cells #[.slice none 0 0, .int .i64 most, .bool false] 54)
        refine ⟨HO1.out.later hb, ⟨World.alloc_heap_new w2 _, by rw [ents_none]; exact OwnD.nil _ _, by rw [← HBa.out]; exact Hb1.out.size⟩, bel_call Hb1.out hb⟩)
      obtain ⟨w3, hw3⟩ : ∃ w3, w2.alloc (.cells #[.slice none 0 0, .int .i64 most, .bool false] 54) = w3 := ⟨_, rfl⟩
      rw [hw3] at H3 ⊢
      obtain ⟨q, hq⟩ : ∃ q, w2.heap.size = q := ⟨_, rfl⟩
      rw [hq] at H3 ⊢
      have HQ := Lib.hid (show base ≤ q from by have := H3.out.2.1.lo; exact this)
      clear hw3 hq HO1 Hb1 HNew HFew
      go_loopw [8] (fun i wr => ∃ (k N' : Nat) (m : MF) (over : Bool) (v : Value), k ≤ N ∧ N' ≤ k ∧ i = .int .i64 (k : Int) ∧ MObj wr base p base N' most m over ∧ (tot m : Int) ≤ most ∧ Dom m ∧ Doc wr base q v (ents m) most over ∧ Below w.heap.size w wr) (fun i _ => N - (intOf i).toNat)
      case atStart => exact ⟨0, 0, _, _, _, Nat.zero_le _, Nat.zero_le _, rfl, H3.out.1, by rw [tot_none]; omega, fun e n h => by simp at h, H3.out.2.1, H3.out.2.2⟩
      case round =>
        obtain ⟨k, N', m, over, v, hk, hN', rfl, hmo, htot, hdom, hdoc, hbw⟩ := hrel
        have Hmo := Lib.hid hmo
        have Htot := Lib.hid htot
        have HDom := Lib.hid hdom
        have Hdoc := Lib.hid hdoc
        have Hbw := Lib.hid hbw
        clear hmo htot hdom hdoc hbw H3
        by_cases hlt : k < N
        · have q1 : (k : Int) < (N : Int) := by omega
          have hkL : k < l.length := by rw [HN.out]; exact hlt
          obtain ⟨g, off, rfl, ⟨d0, d1, d2, d3⟩, hok⟩ := ops_cell HOps.out Hbw.out Hlv.out k hkL
          have htl := HfT.out k hkL
          generalize l[k]'hkL = x at *
          obtain ⟨xa, xe, xn, xt⟩ := x
          simp only at d0 d1 d2 d3 htl
          have HOk := Lib.hid hok.1
          simp only at HOk
          obtain ⟨S, hS⟩ : ∃ S, st xt = S := ⟨_, rfl⟩
          have HS := Lib.hid hS
          rw [hS] at d3
          have HTl := Lib.hid htl
          clear hok hS htl
          obtain ⟨wO, hwO⟩ : ∃ wO, wr.alloc (.cells #[.int .i64 xa, .bool xe, .int .i64 xn, .string S] 39) = wO := ⟨_, rfl⟩
          have HbO := Lib.hid (show Below wr.heap.size wr wO from by rw [← hwO]; exact bel_alloc (Below.refl _ _) _)
          have HcO := Lib.hid (show (wO.cell? ⟨wr.heap.size, 0, none⟩ = some (.int .i64 xa) ∧ wO.cell? ⟨wr.heap.size, 1, none⟩ = some (.bool xe) ∧ wO.cell? ⟨wr.heap.size, 2, none⟩ = some (.int .i64 xn) ∧ wO.cell? ⟨wr.heap.size, 3, none⟩ = some (.string S)) from by rw [← hwO]; exact ⟨by simp [go_sem], by simp [go_sem], by simp [go_sem], by simp [go_sem]⟩)
          have HwO := Lib.hid hwO
          clear hwO
          have HNq := Lib.hid (show wr.heap.size ≠ p ∧ wr.heap.size ≠ base ∧ wr.heap.size ≠ q ∧ p ≠ q ∧ base ≠ q from by
            have h1 := Hmo.out.lt
            have h2 := Hmo.out.map.lt
            have h3 := (Array.getElem?_eq_some_iff.1 Hdoc.out.blk).1
            have h4 := Hdoc.out.ne Hmo.out
            exact ⟨by omega, by omega, by omega, Ne.symm h4.1, Ne.symm h4.2⟩)
          by_cases ha0 : xa = 0
          · subst ha0
            have HbOd := Lib.hid (show Below wr.heap.size wr wO.drew from HbO.out.drew)
            have HSet := Lib.hid (set_to wO.drew base p base N' most m over (Hmo.out.later HbOd.out) (by omega) Htot.out (by omega) xe xn HOk.out.1 HOk.out.2 xt (by have := HTl.out; omega))
            have HR := Lib.hid (fun W' (hW : Doc W' base q v (ents m) most over) => rset_any W' q base v (ents m) most over hW.blk hW.own hW.lo (Nat.le_trans (ents_len m) (by omega)) (by rw [usedS_ents]; have := Htot.out; omega) xe xn xt (by have := HTl.out; omega))
            have hal := ref_alike most m over xe xn xt
            rw [hal.1, hal.2.1, hal.2.2] at HR
            rw [HS.out] at HSet HR
            have HDm0 := Lib.hid (setM_dom (most := most) HDom.out xe xn xt)
            have HTm0 := Lib.hid (setM_tot Htot.out xe xn xt)
            clear hal
            obtain ⟨F, hF⟩ : ∃ F, setE most m xe xn xt = F := ⟨_, rfl⟩
            obtain ⟨M2, hM2⟩ : ∃ M2, setM most m xe xn xt = M2 := ⟨_, rfl⟩
            obtain ⟨O2, hO2⟩ : ∃ O2, setO most m over xe xn xt = O2 := ⟨_, rfl⟩
            rw [hF, hM2, hO2] at HSet HR
            rw [hM2] at HDm0 HTm0
            have HDm := HDm0
            have HTm := HTm0
            clear hF hM2 hO2 HDm0 HTm0
            go_upto_region 17 with fail
            rw [HwO.out]
            refine wp_region_held_drew (S := fun W' => (W'.cell? ⟨wr.heap.size, 1, none⟩ = some (.bool xe) ∧ W'.cell? ⟨wr.heap.size, 2, none⟩ = some (.int .i64 xn) ∧ W'.cell? ⟨wr.heap.size, 3, none⟩ = some (.string S))) (by kernel_rfl) ⟨HcO.out.2.1, HcO.out.2.2.1, HcO.out.2.2.2⟩ (fun hHeld => ?_)
            refine wpAnyH_step (i := 0) (d := some 109) (v := ?_) rfl rfl (by kernel_rfl) (by kernel_rfl) (by kernel_rfl) (fun _ _ _ h => h) (Or.inl ⟨by rfl, ?_⟩) (by assumption) ?_
            rotate_left
            · intro w hSw; (try dsimp only at hSw); go_simp; (try with_reducible rfl)
            try simp only [Act.put, List.setIfInBounds_toArray, List.set_cons_zero, List.set_cons_succ]
            refine wpAnyH_step (i := 1) (d := some 110) (v := ?_) rfl rfl (by kernel_rfl) (by kernel_rfl) (by kernel_rfl) (fun _ _ _ h => h) (Or.inl ⟨by rfl, ?_⟩) (by assumption) ?_
            rotate_left
            · intro w hSw; (try dsimp only at hSw); go_simp; (try with_reducible rfl)
            try simp only [Act.put, List.setIfInBounds_toArray, List.set_cons_zero, List.set_cons_succ]
            refine wpAnyH_step (i := 2) (d := some 111) (v := ?_) rfl rfl (by kernel_rfl) (by kernel_rfl) (by kernel_rfl) (fun _ _ _ h => h) (Or.inl ⟨by rfl, ?_⟩) (by assumption) ?_
            rotate_left
            · intro w hSw; (try dsimp only at hSw); go_simp; (try with_reducible rfl)
            try simp only [Act.put, List.setIfInBounds_toArray, List.set_cons_zero, List.set_cons_succ]
            refine wpAnyH_step (i := 3) (d := some 112) (v := ?_) rfl rfl (by kernel_rfl) (by kernel_rfl) (by kernel_rfl) (fun _ _ _ h => h) (Or.inl ⟨by rfl, ?_⟩) (by assumption) ?_
            rotate_left
            · intro w hSw; (try dsimp only at hSw); go_simp; (try with_reducible rfl)
            try simp only [Act.put, List.setIfInBounds_toArray, List.set_cons_zero, List.set_cons_succ]
            refine wpAnyH_step (i := 4) (d := some 113) (v := ?_) rfl rfl (by kernel_rfl) (by kernel_rfl) (by kernel_rfl) (fun _ _ _ h => h) (Or.inl ⟨by rfl, ?_⟩) (by assumption) ?_
            rotate_left
            · intro w hSw; (try dsimp only at hSw); go_simp; (try with_reducible rfl)
            try simp only [Act.put, List.setIfInBounds_toArray, List.set_cons_zero, List.set_cons_succ]
            refine wpAnyH_step (i := 6) (d := some 115) (v := ?_) rfl rfl (by kernel_rfl) (by kernel_rfl) (by kernel_rfl) (fun _ _ _ h => h) (Or.inl ⟨by rfl, ?_⟩) (by assumption) ?_
            rotate_left
            · intro w hSw; (try dsimp only at hSw); go_simp; (try with_reducible rfl)
            try simp only [Act.put, List.setIfInBounds_toArray, List.set_cons_zero, List.set_cons_succ]
            refine wpAnyH_step (i := 7) (d := some 116) (v := ?_) rfl rfl (by kernel_rfl) (by kernel_rfl) (by kernel_rfl) (fun _ _ _ h => h) (Or.inl ⟨by rfl, ?_⟩) (by assumption) ?_
            rotate_left
            · intro w hSw; (try dsimp only at hSw); go_simp; (try with_reducible rfl)
            try simp only [Act.put, List.setIfInBounds_toArray, List.set_cons_zero, List.set_cons_succ]
            refine wpAnyH_step (i := 8) (d := some 117) (v := ?_) rfl rfl (by kernel_rfl) (by kernel_rfl) (by kernel_rfl) (fun _ _ _ h => h) (Or.inl ⟨by rfl, ?_⟩) (by assumption) ?_
            rotate_left
            · intro w hSw; (try dsimp only at hSw); go_simp; (try with_reducible rfl)
            try simp only [Act.put, List.setIfInBounds_toArray, List.set_cons_zero, List.set_cons_succ]
            refine wpAnyH_step (i := 9) (d := some 118) (v := ?_) rfl rfl (by kernel_rfl) (by kernel_rfl) (by kernel_rfl) (fun _ _ _ h => h) (Or.inl ⟨by rfl, ?_⟩) (by assumption) ?_
            rotate_left
            · intro w hSw; (try dsimp only at hSw); go_simp; (try with_reducible rfl)
            try simp only [Act.put, List.setIfInBounds_toArray, List.set_cons_zero, List.set_cons_succ]
            refine wpAnyH_step (i := 10) (d := some 119) (v := ?_) rfl rfl (by kernel_rfl) (by kernel_rfl) (by kernel_rfl) (fun _ _ _ h => h) (Or.inl ⟨by rfl, ?_⟩) (by assumption) ?_
            rotate_left
            · intro w hSw; (try dsimp only at hSw); go_simp; (try with_reducible rfl)
            try simp only [Act.put, List.setIfInBounds_toArray, List.set_cons_zero, List.set_cons_succ]
            refine wpAnyH_step (i := 11) (d := some 120) (v := ?_) rfl rfl (by kernel_rfl) (by kernel_rfl) (by kernel_rfl) (fun _ _ _ h => h) (Or.inl ⟨by rfl, ?_⟩) (by assumption) ?_
            rotate_left
            · intro w hSw; (try dsimp only at hSw); go_simp; (try with_reducible rfl)
            try simp only [Act.put, List.setIfInBounds_toArray, List.set_cons_zero, List.set_cons_succ]
            refine wpAnyH_step (i := 12) (d := some 121) (v := ?_) rfl rfl (by kernel_rfl) (by kernel_rfl) (by kernel_rfl) (fun _ _ _ h => h) (Or.inl ⟨by rfl, ?_⟩) (by assumption) ?_
            rotate_left
            · intro w hSw; (try dsimp only at hSw); go_simp; (try with_reducible rfl)
            try simp only [Act.put, List.setIfInBounds_toArray, List.set_cons_zero, List.set_cons_succ]
            refine wpAnyH_step (i := 13) (d := some 122) (v := ?_) rfl rfl (by kernel_rfl) (by kernel_rfl) (by kernel_rfl) (fun _ _ _ h => h) (Or.inl ⟨by rfl, ?_⟩) (by assumption) ?_
            rotate_left
            · intro w hSw; (try dsimp only at hSw); go_simp; (try with_reducible rfl)
            try simp only [Act.put, List.setIfInBounds_toArray, List.set_cons_zero, List.set_cons_succ]
            refine wpAnyH_ready (rs := [5]) (by kernel_rfl) (by simp) ?_
            refine AllReadyH.cons rfl (fun K hK => ?_) AllReadyH.nil
            go_simp
            refine HSet.out.mono ?_
            rintro r w4 ⟨rfl, ⟨N4, hN4, ho4⟩, hto4⟩
            have HM4 := Lib.hid ho4
            have HDoc4 := Lib.hid ((Hdoc.out.later HbOd.out).to hto4 (Hmo.out.later HbOd.out))
            have HB4 := Lib.hid (show Below w.heap.size w w4 from (bel_call Hbw.out HbOd.out).trans (hto4.below (by rw [HBa.out]; exact HP.out) (by rw [HBa.out]; exact Nat.le_refl _) (bel_call Hbw.out HbOd.out).size))
            have HC4 := Lib.hid (show w4.cell? ⟨wr.heap.size, 1, none⟩ = some (.bool xe) ∧ w4.cell? ⟨wr.heap.size, 2, none⟩ = some (.int .i64 xn) ∧ w4.cell? ⟨wr.heap.size, 3, none⟩ = some (.string S) from ⟨hto4.cell HNq.out.1 HNq.out.2.1 HcO.out.2.1, hto4.cell HNq.out.1 HNq.out.2.1 HcO.out.2.2.1, hto4.cell HNq.out.1 HNq.out.2.1 HcO.out.2.2.2⟩)
            clear ho4 hto4
            (try go_wp2_with fail)
            refine hK.out _ _ ?_ (fun hHeld => ?_)
            · exact HC4.out
            clear hK K
            try simp only [Act.put, List.setIfInBounds_toArray, List.set_cons_zero, List.set_cons_succ]
            refine wpAnyH_ready (rs := [14]) (by kernel_rfl) (by simp) ?_
            refine AllReadyH.cons rfl (fun K hK => ?_) AllReadyH.nil
            go_simp
            refine (HR.out w4 HDoc4.out).mono ?_
            rintro r w5 ⟨rfl, ⟨v5, hq5, ho5⟩, ht5⟩
            have HM5 := Lib.hid (HM4.out.t1 ht5 HNq.out.2.2.2.1 HNq.out.2.2.2.2)
            have HD5 := Lib.hid (show Doc w5 base q v5 (ents M2) most O2 from ⟨hq5, ho5, HQ.out⟩)
            have HB5 := Lib.hid (show Below w.heap.size w w5 from HB4.out.trans (ht5.below (by rw [HBa.out]; exact HQ.out) HB4.out.size))
            have HC5 := Lib.hid (show w5.cell? ⟨wr.heap.size, 1, none⟩ = some (.bool xe) ∧ w5.cell? ⟨wr.heap.size, 2, none⟩ = some (.int .i64 xn) ∧ w5.cell? ⟨wr.heap.size, 3, none⟩ = some (.string S) from ⟨ht5.cell HNq.out.2.2.1 HC4.out.1, ht5.cell HNq.out.2.2.1 HC4.out.2.1, ht5.cell HNq.out.2.2.1 HC4.out.2.2⟩)
            clear hq5 ho5 ht5
            (try go_wp2_with fail)
            refine hK.out _ _ ?_ (fun hHeld => ?_)
            · exact HC5.out
            clear hK K
            try simp only [Act.put, List.setIfInBounds_toArray, List.set_cons_zero, List.set_cons_succ]
            refine wpAnyH_step (i := 15) (d := some 124) (v := ?_) rfl rfl (by kernel_rfl) (by kernel_rfl) (by kernel_rfl) (fun _ _ _ h => h) (Or.inl ⟨by rfl, ?_⟩) (by assumption) ?_
            rotate_left
            · intro w hSw; (try dsimp only at hSw); go_simp; (try with_reducible rfl)
            try simp only [Act.put, List.setIfInBounds_toArray, List.set_cons_zero, List.set_cons_succ]
            refine wpAnyH_done (by kernel_rfl) ?_ _
            clear hHeld
            have HDc := Lib.hid HD5.out.cells
            obtain ⟨⟨y0, y1, y2⟩, -⟩ := HDc.out
            have HSm := Lib.hid (same_any w5 base base p base N4 most most M2 O2 v5 HM5.out HDm.out HD5.out.own (by have := HTm.out; omega))
            have hus : ¬ most < (tot M2 : Int) := by have := HTm.out; omega
            have HUs := Lib.hid (fun W' (hW : Below w5.heap.size w5 W') => used_any W' base p base N4 most M2 O2 (HM5.out.later hW))
            obtain ⟨U, hU⟩ : ∃ U, tot M2 = U := ⟨_, rfl⟩
            rw [hU] at HUs hus
            clear hU
            go_wp2_with fail
            refine HSm.out.mono ?_
            rintro r w8 ⟨rfl, hb8⟩
            have Hb8 := Lib.hid hb8
            clear hb8 y0 y1 y2
            go_wp2_with fail
            refine (HUs.out _ Hb8.out).mono ?_
            rintro r w9 ⟨rfl, hw9⟩
            rw [hw9]
            clear hw9
            go_wp2_with fail
            go_roundw
            case rel => exact ⟨k + 1, N4, M2, O2, v5, by omega, by omega, by go_num, HM5.out.later Hb8.out, HTm.out, HDm.out, HD5.out.later Hb8.out, bel_call HB5.out Hb8.out⟩
            case measure => simp [intOf]; omega
          · have qa : (xa == 0) = false := by simpa using ha0
            by_cases ha1 : xa = 1
            · subst ha1
              have HCl := Lib.hid (clear_any wO base p base N' most m over (Hmo.out.later HbO.out))
              go_upto_region 20 with fail
              rw [HwO.out]
              go_wp2_with fail
              refine HCl.out.mono ?_
              rintro r w4 ⟨rfl, hm4, hto4⟩
              have HDoc4 := Lib.hid ((Hdoc.out.later HbO.out).to hto4 (Hmo.out.later HbO.out))
              have HB4 := Lib.hid (show Below w.heap.size w w4 from (bel_call Hbw.out HbO.out).trans (hto4.below (by rw [HBa.out]; exact HP.out) (by rw [HBa.out]; exact Nat.le_refl _) (bel_call Hbw.out HbO.out).size))
              obtain ⟨⟨y0, y1, y2⟩, yf⟩ := HDoc4.out.cells
              have yf0 := yf 0
              have yf1 := yf 1
              have yf2 := yf 2
              have s0 := heap_setCell_same w4 q 0 _ _ (.slice none 0 0) HDoc4.out.blk
              have s1 := heap_setCell_same (w4.setCell ⟨q, 0, none⟩ (.slice none 0 0)) q 1 _ _ (.int .i64 most) s0
              have s2 := heap_setCell_same ((w4.setCell ⟨q, 0, none⟩ (.slice none 0 0)).setCell ⟨q, 1, none⟩ (.int .i64 most)) q 2 _ _ (.bool false) s1
              have H5 := Lib.hid (show MObj (((w4.setCell ⟨q, 0, none⟩ (.slice none 0 0)).setCell ⟨q, 1, none⟩ (.int .i64 most)).setCell ⟨q, 2, none⟩ (.bool false)) base p base 0 most (fun _ _ => none) false ∧ Doc (((w4.setCell ⟨q, 0, none⟩ (.slice none 0 0)).setCell ⟨q, 1, none⟩ (.int .i64 most)).setCell ⟨q, 2, none⟩ (.bool false)) base q (.slice none 0 0) (ents (fun _ _ => none)) most false ∧ Below w.heap.size w (((w4.setCell ⟨q, 0, none⟩ (.slice none 0 0)).setCell ⟨q, 1, none⟩ (.int .i64 most)).setCell ⟨q, 2, none⟩ (.bool false)) from by
                have hqw : w.heap.size ≤ q := by rw [HBa.out]; exact HQ.out
                refine ⟨((hm4.setOther q 0 _ HNq.out.2.2.2.1 HNq.out.2.2.2.2).setOther q 1 _ HNq.out.2.2.2.1 HNq.out.2.2.2.2).setOther q 2 _ HNq.out.2.2.2.1 HNq.out.2.2.2.2, ⟨by rw [s2]; rfl, by rw [ents_none]; exact OwnD.nil _ _, HQ.out⟩, ?_⟩
                exact ((HB4.out.setCell (p := ⟨q, 0, none⟩) hqw _).setCell (p := ⟨q, 1, none⟩) hqw _).setCell (p := ⟨q, 2, none⟩) hqw _)
              clear s0 s1 s2 hm4 hto4 yf
              go_upto_region 22 with fail
              obtain ⟨w5, hw5⟩ : ∃ w5, (((w4.setCell ⟨q, 0, none⟩ (.slice none 0 0)).setCell ⟨q, 1, none⟩ (.int .i64 most)).setCell ⟨q, 2, none⟩ (.bool false)) = w5 := ⟨_, rfl⟩
              rw [hw5] at H5 ⊢
              clear hw5 y0 y1 y2 yf0 yf1 yf2
              have HM5 := Lib.hid H5.out.1
              have HD5 := Lib.hid H5.out.2.1
              have HB5 := Lib.hid H5.out.2.2
              have HDm5 := Lib.hid (show Dom (fun _ _ => none) from fun e n h => by simp at h)
              have HT5 := Lib.hid (show ((tot (fun _ _ => none) : Nat) : Int) ≤ most from by rw [tot_none]; omega)
              obtain ⟨M5, hM5⟩ : ∃ M5 : MF, (fun _ _ => none) = M5 := ⟨_, rfl⟩
              rw [hM5] at HM5 HD5 HDm5 HT5
              clear hM5 H5
              have HDc := Lib.hid HD5.out.cells
              obtain ⟨⟨y0, y1, y2⟩, -⟩ := HDc.out
              have HSm := Lib.hid (same_any w5 base base p base 0 most most M5 false (.slice none 0 0) HM5.out HDm5.out HD5.out.own (by have := HT5.out; omega))
              have hus : ¬ most < (tot M5 : Int) := by have := HT5.out; omega
              have HUs := Lib.hid (fun W' (hW : Below w5.heap.size w5 W') => used_any W' base p base 0 most M5 false (HM5.out.later hW))
              obtain ⟨U, hU⟩ : ∃ U, tot M5 = U := ⟨_, rfl⟩
              rw [hU] at HUs hus
              clear hU
              go_wp2_with fail
              refine HSm.out.mono ?_
              rintro r w8 ⟨rfl, hb8⟩
              have Hb8 := Lib.hid hb8
              clear hb8 y0 y1 y2
              go_wp2_with fail
              refine (HUs.out _ Hb8.out).mono ?_
              rintro r w9 ⟨rfl, hw9⟩
              rw [hw9]
              clear hw9
              go_wp2_with fail
              go_roundw
              case rel => exact ⟨k + 1, 0, M5, false, (.slice none 0 0), by omega, by omega, by go_num, HM5.out.later Hb8.out, HT5.out, HDm5.out, HD5.out.later Hb8.out, bel_call HB5.out Hb8.out⟩
              case measure => simp [intOf]; omega
            · have qb : (xa == 1) = false := by simpa using ha1
              cases hv : m xe xn with
              | none =>
                obtain ⟨-, c1, c2, -⟩ := HcO.out
                have HG := Lib.hid (get_any wO base p base N' most m over (Hmo.out.later HbO.out) xe xn HOk.out.1 HOk.out.2)
                rw [hv] at HG
                simp only [Option.getD_none, Option.isSome_none] at HG
                rw [st_nil] at HG
                have HV := Lib.hid hv
                clear hv
                go_upto_region 12 with fail
                rw [HwO.out]
                go_wp2_with fail
                refine HG.out.mono ?_
                rintro r w4 ⟨rfl, hb4⟩
                have Hb4 := Lib.hid hb4
                have HD4 := Lib.hid ((Hdoc.out.later HbO.out).later hb4)
                obtain ⟨⟨y0, y1, y2⟩, -⟩ := HD4.out.cells
                replace c1 := cellB hb4 c1
                replace c2 := cellB hb4 c2
                have HFi := Lib.hid (find_any w4 base v (ents m) most over HD4.out.own (Nat.le_trans (ents_len m) (by omega)) xe xn)
                clear hb4
                go_wp2_with fail
                refine HFi.out.mono ?_
                rintro r w5 ⟨⟨a, rfl, ha⟩, hb5⟩
                rcases ha with ⟨rfl, hno⟩ | ⟨k2, y, hy, rfl, hy1, hy2⟩
                · skip
                  have Hb5 := Lib.hid hb5
                  have HM5 := Lib.hid (((Hmo.out.later HbO.out).later Hb4.out).later hb5)
                  have HD5 := Lib.hid (HD4.out.later hb5)
                  have HB5 := Lib.hid (bel_call (bel_call (bel_call Hbw.out HbO.out) Hb4.out) hb5)
                  have HT5 := Htot
                  have HDm5 := HDom
                  clear hb5 c1 c2
                  go_upto_region 22 with fail
                  have HDc := Lib.hid HD5.out.cells
                  obtain ⟨⟨y0, y1, y2⟩, -⟩ := HDc.out
                  have HSm := Lib.hid (same_any w5 base base p base N' most most m over v HM5.out HDm5.out HD5.out.own (by have := HT5.out; omega))
                  have hus : ¬ most < (tot m : Int) := by have := HT5.out; omega
                  have HUs := Lib.hid (fun W' (hW : Below w5.heap.size w5 W') => used_any W' base p base N' most m over (HM5.out.later hW))
                  obtain ⟨U, hU⟩ : ∃ U, tot m = U := ⟨_, rfl⟩
                  rw [hU] at HUs hus
                  clear hU
                  go_wp2_with fail
                  refine HSm.out.mono ?_
                  rintro r w8 ⟨rfl, hb8⟩
                  have Hb8 := Lib.hid hb8
                  clear hb8 y0 y1 y2
                  go_wp2_with fail
                  refine (HUs.out _ Hb8.out).mono ?_
                  rintro r w9 ⟨rfl, hw9⟩
                  rw [hw9]
                  clear hw9
                  go_wp2_with fail
                  go_roundw
                  case rel => exact ⟨k + 1, N', m, over, v, by omega, by omega, by go_num, HM5.out.later Hb8.out, HT5.out, HDm5.out, HD5.out.later Hb8.out, bel_call HB5.out Hb8.out⟩
                  case measure => simp [intOf]; omega
                · exfalso
                  have h1 := ents_mem (List.mem_of_getElem? hy)
                  rw [hy1, hy2, HV.out] at h1
                  cases h1
              | some tx =>
                obtain ⟨-, c1, c2, -⟩ := HcO.out
                have HG := Lib.hid (get_any wO base p base N' most m over (Hmo.out.later HbO.out) xe xn HOk.out.1 HOk.out.2)
                rw [hv] at HG
                simp only [Option.getD_some, Option.isSome_some] at HG
                obtain ⟨S2, hS2⟩ : ∃ S2, st tx = S2 := ⟨_, rfl⟩
                have HS2 := Lib.hid hS2
                rw [hS2] at HG
                clear hS2
                have HV := Lib.hid hv
                clear hv
                go_upto_region 12 with fail
                rw [HwO.out]
                go_wp2_with fail
                refine HG.out.mono ?_
                rintro r w4 ⟨rfl, hb4⟩
                have Hb4 := Lib.hid hb4
                have HD4 := Lib.hid ((Hdoc.out.later HbO.out).later hb4)
                obtain ⟨⟨y0, y1, y2⟩, -⟩ := HD4.out.cells
                replace c1 := cellB hb4 c1
                replace c2 := cellB hb4 c2
                have HFi := Lib.hid (find_any w4 base v (ents m) most over HD4.out.own (Nat.le_trans (ents_len m) (by omega)) xe xn)
                clear hb4
                go_wp2_with fail
                refine HFi.out.mono ?_
                rintro r w5 ⟨⟨a, rfl, ha⟩, hb5⟩
                rcases ha with ⟨rfl, hno⟩ | ⟨k2, y, hy, rfl, hy1, hy2⟩
                · exfalso
                  exact hno _ (ents_has (c := ⟨xe, xn⟩) HDom.out HV.out) ⟨rfl, rfl⟩
                · have h1 := ents_mem (List.mem_of_getElem? hy)
                  rw [hy1, hy2, HV.out] at h1
                  have htx : tx = y.text := Option.some.inj h1
                  obtain ⟨hk2, hyk⟩ := List.getElem?_eq_some_iff.1 hy
                  have hd5 := HD4.out.later hb5
                  obtain ⟨⟨z0, z1, z2⟩, -⟩ := hd5.cells
                  obtain ⟨ad', cap', hvv, hx⟩ := hd5.own.form
                  obtain ⟨g', rfl, -, hc⟩ := hx (by omega)
                  obtain ⟨-, -, e2⟩ := hc k2 hk2
                  rw [hyk, ← htx, HS2.out] at e2
                  subst hvv
                  have qk : (k2 : Int) < ((ents m).length : Int) := by omega
                  have qk2 : (0 : Int) ≤ (k2 : Int) := by omega
                  have sb : (S2.toList != S2.toList) = false := by simp
                  clear hc hx h1 hy hyk hy1 hy2 htx hd5 y0 y1 y2 z1 z2
                  have Hb5 := Lib.hid hb5
                  have HM5 := Lib.hid (((Hmo.out.later HbO.out).later Hb4.out).later hb5)
                  have HD5 := Lib.hid (HD4.out.later hb5)
                  have HB5 := Lib.hid (bel_call (bel_call (bel_call Hbw.out HbO.out) Hb4.out) hb5)
                  have HT5 := Htot
                  have HDm5 := HDom
                  clear hb5 c1 c2
                  go_upto_region 22 with fail
                  clear z0 e2
                  have HDc := Lib.hid HD5.out.cells
                  obtain ⟨⟨y0, y1, y2⟩, -⟩ := HDc.out
                  have HSm := Lib.hid (same_any w5 base base p base N' most most m over _ HM5.out HDm5.out HD5.out.own (by have := HT5.out; omega))
                  have hus : ¬ most < (tot m : Int) := by have := HT5.out; omega
                  have HUs := Lib.hid (fun W' (hW : Below w5.heap.size w5 W') => used_any W' base p base N' most m over (HM5.out.later hW))
                  obtain ⟨U, hU⟩ : ∃ U, tot m = U := ⟨_, rfl⟩
                  rw [hU] at HUs hus
                  clear hU
                  go_wp2_with fail
                  refine HSm.out.mono ?_
                  rintro r w8 ⟨rfl, hb8⟩
                  have Hb8 := Lib.hid hb8
                  clear hb8 y0 y1 y2
                  go_wp2_with fail
                  refine (HUs.out _ Hb8.out).mono ?_
                  rintro r w9 ⟨rfl, hw9⟩
                  rw [hw9]
                  clear hw9
                  go_wp2_with fail
                  go_roundw
                  case rel => exact ⟨k + 1, N', m, over, _, by omega, by omega, by go_num, HM5.out.later Hb8.out, HT5.out, HDm5.out, HD5.out.later Hb8.out, bel_call HB5.out Hb8.out⟩
                  case measure => simp [intOf]; omega
        · have q1 : ¬ (k : Int) < (N : Int) := by omega
          go_wp2_with fail
          refine (HA.out _ Hbw.out).mono ?_
          rintro r w4 ⟨rfl, hb⟩
          go_wp2_with fail
          go_ret
          exact ⟨rfl, bel_call Hbw.out hb⟩
end Go.Proofs.YtnfpfpppnfighaaDoor
