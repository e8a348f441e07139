/- RemapLast: the law's walk. -/
import Derived.Test.YtnfpfpppnfighaaDoorRN
namespace Go.Proofs.YtnfpfpppnfighaaDoor
open Go.Shelf Go.RowKit Go.Maps
set_option linter.unusedVariables false
set_option linter.unusedSimpArgs false
set_option maxRecDepth 100000
set_option maxHeartbeats 4000000 in
theorem last_walk (w : World) (htab : Tab w) (most : Int) (lv : Value) (l : List OpD) (hL : OpsAt w lv l) (o : OpD) (ho : o.ok) :
    Calls Tryd.prog 6 #[.int .i64 most, lv, opV o.a o.e o.n o.t] w fun e w' => e = .returned (.bool true) ∧ Below w.heap.size w w' := by
  unfold opV
  have HA := Lib.hid (fun W (hb : Below w.heap.size w W) => awake_any W (tab_below htab W hb))
  have HOps := Lib.hid hL
  obtain ⟨oa, e, n, t⟩ := o
  obtain ⟨hon, hot⟩ := ho
  simp only at hon hot ⊢
  obtain ⟨ad, cap, hlv, -⟩ := id hL
  obtain ⟨S, hS⟩ : ∃ S, st t = S := ⟨_, rfl⟩
  have HS0 := Lib.hid hS
  have zS : S.size = t.length := by rw [← hS, st_size]
  rw [hS]
  obtain ⟨L, hLt⟩ : ∃ L, t.length = L := ⟨_, rfl⟩
  have HLt := Lib.hid hLt
  rw [hLt] at zS hot
  have hw0 : Below w.heap.size w (w.alloc (.cells #[.int .i64 oa, .bool e, .int .i64 n, .string S] 39)) := bel_alloc (Below.refl _ _) _
  have hcl : ∀ W, W = w.alloc (.cells #[.int .i64 oa, .bool e, .int .i64 n, .string S] 39) → W.heap.size = w.heap.size + 1 ∧ (W.cell? ⟨w.heap.size, 1, none⟩ = some (.bool e) ∧ W.cell? ⟨w.heap.size, 2, none⟩ = some (.int .i64 n) ∧ W.cell? ⟨w.heap.size, 3, none⟩ = some (.string S)) := by
    intro W hW
    subst hW
    simp [go_sem]
  have HW0 := Lib.hid hw0
  have HCl := Lib.hid hcl
  clear htab hS hLt hw0 hcl
  by_cases hb : most < 0 ∨ 4096 < most
  · have HNew := Lib.hid (fun W => new_bad W most hb)
    clear hL hb
    rw [hlv]
    go_enter Tryd.func6, Tryd.ntmps6
    go_wp2_with fail
    refine (HNew.out _).mono ?_
    rintro r w1 ⟨rfl, rfl⟩
    go_wp2_with fail
    refine (HA.out _ HW0.out).mono ?_
    rintro e w9 ⟨rfl, hb9⟩
    go_wp2_with fail
    go_ret
    exact ⟨rfl, bel_call HW0.out hb9⟩
  · have g1 : ¬ most < 0 := fun h => hb (.inl h)
    have g2 : ¬ 4096 < most := fun h => hb (.inr h)
    have HNew := Lib.hid (fun W => new_any W most g1 g2)
    have HFew := Lib.hid (fun W (hb : Below w.heap.size w W) => few_any W lv l (hL.later hb))
    have HM := Lib.hid (And.intro g1 g2)
    have Hlv := Lib.hid hlv
    obtain ⟨N, hN⟩ : ∃ N, l.length = N := ⟨_, rfl⟩
    have HN := Lib.hid hN
    rw [hN] at hlv
    clear hL hb hN g1 g2
    subst hlv
    cases hf : fewB l with
    | false =>
      rw [hf] at HFew
      clear hf
      go_enter Tryd.func6, Tryd.ntmps6
      go_wp2_with fail
      refine (HNew.out _).mono ?_
      rintro r w1 ⟨rfl, hO1, hb1⟩
      have Hb1 := Lib.hid (bel_call HW0.out hb1)
      clear hb1 hO1
      go_wp2_with fail
      refine (HFew.out _ Hb1.out).mono ?_
      rintro r w2 ⟨rfl, rfl⟩
      go_wp2_with fail
      refine (HA.out _ Hb1.out).mono ?_
      rintro e w9 ⟨rfl, hb9⟩
      go_wp2_with fail
      go_ret
      exact ⟨rfl, bel_call Hb1.out hb9⟩
    | true =>
      rw [hf] at HFew
      have HfT := Lib.hid (fun k hk => few_text hf k hk)
      have hN60 : N ≤ 60 := by have := few_num hf; rw [HN.out] at this; exact this
      clear hf
      by_cases h5 : 5000 < L
      · have q5 : (5000 : Int) < (L : Int) := by omega
        go_enter Tryd.func6, Tryd.ntmps6
        go_wp2_with fail
        obtain ⟨w0, hw0⟩ : ∃ w0, w.alloc (.cells #[.int .i64 oa, .bool e, .int .i64 n, .string S] 39) = w0 := ⟨_, rfl⟩
        rw [hw0] at HW0 ⊢
        obtain ⟨hz0, k1, k2, k3⟩ := HCl.out w0 hw0.symm
        clear hw0 HCl
        refine (HNew.out _).mono ?_
        rintro r w1 ⟨rfl, hO1, hb1⟩
        have k4 := cellB hb1 k3
        have Hb1 := Lib.hid (bel_call HW0.out hb1)
        clear hb1 hO1 k1 k2 k3 hz0
        go_wp2_with fail
        refine (HFew.out _ Hb1.out).mono ?_
        rintro r w2 ⟨rfl, rfl⟩
        go_wp2_with fail
        refine (HA.out _ Hb1.out).mono ?_
        rintro e w9 ⟨rfl, hb9⟩
        go_wp2_with fail
        go_ret
        exact ⟨rfl, bel_call Hb1.out hb9⟩
      · have q5 : ¬ (5000 : Int) < (L : Int) := by omega
        obtain ⟨O, hmk, hwas⟩ : ∃ O : Obj, (∀ w : World, (Instr.makeSlice 47 (.int .i64 512) (.int .i64 512)).run Tryd.prog w = .ok (.slice (some ⟨w.heap.size, 0, none⟩) 512 512) (w.alloc O)) ∧ ∀ (m : MF) (w : World), Was (w.alloc O) w.heap.size m 0 := was_made
        have HWas := Lib.hid hwas
        clear hwas
        go_enter Tryd.func6, Tryd.ntmps6
        go_wp2_with fail
        obtain ⟨w0, hw0⟩ : ∃ w0, w.alloc (.cells #[.int .i64 oa, .bool e, .int .i64 n, .string S] 39) = w0 := ⟨_, rfl⟩
        rw [hw0] at HW0 ⊢
        obtain ⟨hz0, k1, k2, k3⟩ := HCl.out w0 hw0.symm
        clear hw0 HCl
        obtain ⟨base, hba⟩ : ∃ base, w0.heap.size = base := ⟨_, rfl⟩
        obtain ⟨B, hB⟩ : ∃ B, w.heap.size = B := ⟨_, rfl⟩
        have HB := Lib.hid (show B < base ∧ w.heap.size ≤ base ∧ w0.heap.size = base from by omega)
        have HKB := Lib.hid (show ∀ W, Below base w0 W → (W.cell? ⟨B, 1, none⟩ = some (.bool e) ∧ W.cell? ⟨B, 2, none⟩ = some (.int .i64 n) ∧ W.cell? ⟨B, 3, none⟩ = some (.string S)) ∧ Below w.heap.size w W from fun W hW => by
          rw [hB] at k1 k2 k3
          have hl := HB.out
          exact ⟨⟨(hW.cell (p := ⟨B, 1, none⟩) hl.1).trans k1, (hW.cell (p := ⟨B, 2, none⟩) hl.1).trans k2, (hW.cell (p := ⟨B, 3, none⟩) hl.1).trans k3⟩, HW0.out.trans (hW.mono hl.2.1)⟩)
        rw [hB]
        clear k1 k2 k3 hz0 hB
        refine (HNew.out _).mono ?_
        rintro r w1 ⟨rfl, hO1, hb1⟩
        rw [hba] at hO1 hb1 ⊢
        have HO1 := Lib.hid hO1
        have Hb1 := Lib.hid hb1
        obtain ⟨⟨-, -, k4⟩, hbw1⟩ := HKB.out _ hb1
        have Hbw1 := Lib.hid hbw1
        clear hb1 hO1 hbw1
        obtain ⟨p, hp⟩ : ∃ p, base + 1 = p := ⟨_, rfl⟩
        rw [hp] at HO1 ⊢
        have Hp := Lib.hid (show base ≤ p from by omega)
        clear hp hba
        go_wp2_with fail
        refine (HFew.out _ Hbw1.out).mono ?_
        rintro r w2 ⟨rfl, rfl⟩
        go_wp2_with fail
        go_loopw [9] (fun i wr => ∃ (k N' : Nat) (m : MF) (over : Bool), k ≤ N ∧ N' ≤ k ∧ i = .int .i64 (k : Int) ∧ MObj wr base p base N' most m over ∧ (tot m : Int) ≤ most ∧ NE m ∧ Below base w0 wr) (fun i _ => N - (intOf i).toNat)
        case atStart => exact ⟨0, 0, _, _, Nat.zero_le _, Nat.zero_le _, rfl, HO1.out, by have h1 := HM.out; have h2 : tot (fun _ _ => none) = 0 := by decide +kernel
                                                                                          rw [h2]; omega, fun _ _ => by simp, Hb1.out⟩
        case round =>
          obtain ⟨k, N', m, over, hk, hN', rfl, hmo, htot, hne, hbw⟩ := hrel
          have Hmo := Lib.hid hmo
          have Htot := Lib.hid htot
          have Hne := Lib.hid hne
          have Hbw := Lib.hid hbw
          clear hmo htot hne hbw
          by_cases hlt : k < N
          · have q1 : (k : Int) < (N : Int) := by omega
            have hkL : k < l.length := by rw [HN.out]; exact hlt
            obtain ⟨g, off, rfl, ⟨d0, d1, d2, d3⟩, hok⟩ := ops_cell HOps.out (HKB.out _ Hbw.out).2 Hlv.out k hkL
            have HS := Lib.hid (show ∀ W, Below base w0 W → (W.cell? ⟨g, off + k * 4 + 1, none⟩ = some (.bool l[k].e) ∧ W.cell? ⟨g, off + k * 4 + 2, none⟩ = some (.int .i64 l[k].n) ∧ W.cell? ⟨g, off + k * 4 + 3, none⟩ = some (.string (st l[k].t))) ∧ Below base w0 W from fun W hW => by
              obtain ⟨g', off', e', ⟨d0', d1', d2', d3'⟩, hok'⟩ := ops_cell HOps.out (HKB.out _ hW).2 Hlv.out k hkL
              simp only [Option.some.injEq, Addr.mk.injEq] at e'
              obtain ⟨rfl, rfl, -⟩ := e'
              exact ⟨⟨d1', d2', d3'⟩, hW⟩)
            have HSet := Lib.hid (set_any wr.drew base p base N' most m over (Hmo.out.later (Below.refl _ _).drew) (by have := HB.out; have := Hbw.out.size; show base ≤ wr.heap.size; omega) (by have := HM.out; omega) Htot.out (by omega) l[k].e l[k].n hok.1.1 hok.1.2 l[k].t (by have := HfT.out k hkL; omega))
            have HMt := Lib.hid (setM_tot Htot.out l[k].e l[k].n l[k].t)
            have HMn := Lib.hid (setM_ne (most := most) Hne.out l[k].e l[k].n l[k].t)
            clear hok
            generalize l[k]'hkL = x at *
            by_cases ha : x.a = 0
            · have qa : (x.a == 0) = true := by simpa using ha
              go_upto_region 8 with fail
              refine wp_region_held_drew (S := fun W => (W.cell? ⟨g, off + k * 4 + 1, none⟩ = some (.bool x.e) ∧ W.cell? ⟨g, off + k * 4 + 2, none⟩ = some (.int .i64 x.n) ∧ W.cell? ⟨g, off + k * 4 + 3, none⟩ = some (.string (st x.t))) ∧ Below base w0 W) (by kernel_rfl) (HS.out _ Hbw.out.drew) (fun hHeld => ?_)
              refine wpAnyH_step (i := 0) (d := some 60) (v := ?_) rfl rfl (by kernel_rfl) (by kernel_rfl) (by kernel_rfl) (fun _ _ _ h => h) (Or.inl ⟨by rfl, ?_⟩) (by assumption) ?_
              rotate_left
              · intro w hSw; (try dsimp only at hSw); go_simp; (try with_reducible rfl)
              try simp only [Act.put, List.setIfInBounds_toArray, List.set_cons_zero, List.set_cons_succ]
              refine wpAnyH_step (i := 1) (d := some 61) (v := ?_) rfl rfl (by kernel_rfl) (by kernel_rfl) (by kernel_rfl) (fun _ _ _ h => h) (Or.inl ⟨by rfl, ?_⟩) (by assumption) ?_
              rotate_left
              · intro w hSw; (try dsimp only at hSw); go_simp; (try with_reducible rfl)
              try simp only [Act.put, List.setIfInBounds_toArray, List.set_cons_zero, List.set_cons_succ]
              refine wpAnyH_step (i := 2) (d := some 62) (v := ?_) rfl rfl (by kernel_rfl) (by kernel_rfl) (by kernel_rfl) (fun _ _ _ h => h) (Or.inl ⟨by rfl, ?_⟩) (by assumption) ?_
              rotate_left
              · intro w hSw; (try dsimp only at hSw); go_simp; (try with_reducible rfl)
              try simp only [Act.put, List.setIfInBounds_toArray, List.set_cons_zero, List.set_cons_succ]
              refine wpAnyH_step (i := 3) (d := some 63) (v := ?_) rfl rfl (by kernel_rfl) (by kernel_rfl) (by kernel_rfl) (fun _ _ _ h => h) (Or.inl ⟨by rfl, ?_⟩) (by assumption) ?_
              rotate_left
              · intro w hSw; (try dsimp only at hSw); go_simp; (try with_reducible rfl)
              try simp only [Act.put, List.setIfInBounds_toArray, List.set_cons_zero, List.set_cons_succ]
              refine wpAnyH_step (i := 4) (d := some 64) (v := ?_) rfl rfl (by kernel_rfl) (by kernel_rfl) (by kernel_rfl) (fun _ _ _ h => h) (Or.inl ⟨by rfl, ?_⟩) (by assumption) ?_
              rotate_left
              · intro w hSw; (try dsimp only at hSw); go_simp; (try with_reducible rfl)
              try simp only [Act.put, List.setIfInBounds_toArray, List.set_cons_zero, List.set_cons_succ]
              refine wpAnyH_step (i := 5) (d := some 65) (v := ?_) rfl rfl (by kernel_rfl) (by kernel_rfl) (by kernel_rfl) (fun _ _ _ h => h) (Or.inl ⟨by rfl, ?_⟩) (by assumption) ?_
              rotate_left
              · intro w hSw; (try dsimp only at hSw); go_simp; (try with_reducible rfl)
              try simp only [Act.put, List.setIfInBounds_toArray, List.set_cons_zero, List.set_cons_succ]
              refine wpAnyH_step (i := 6) (d := some 66) (v := ?_) rfl rfl (by kernel_rfl) (by kernel_rfl) (by kernel_rfl) (fun _ _ _ h => h) (Or.inl ⟨by rfl, ?_⟩) (by assumption) ?_
              rotate_left
              · intro w hSw; (try dsimp only at hSw); go_simp; (try with_reducible rfl)
              try simp only [Act.put, List.setIfInBounds_toArray, List.set_cons_zero, List.set_cons_succ]
              refine wpAnyH_step (i := 7) (d := some 67) (v := ?_) rfl rfl (by kernel_rfl) (by kernel_rfl) (by kernel_rfl) (fun _ _ _ h => h) (Or.inl ⟨by rfl, ?_⟩) (by assumption) ?_
              rotate_left
              · intro w hSw; (try dsimp only at hSw); go_simp; (try with_reducible rfl)
              try simp only [Act.put, List.setIfInBounds_toArray, List.set_cons_zero, List.set_cons_succ]
              refine wpAnyH_step (i := 8) (d := some 68) (v := ?_) rfl rfl (by kernel_rfl) (by kernel_rfl) (by kernel_rfl) (fun _ _ _ h => h) (Or.inl ⟨by rfl, ?_⟩) (by assumption) ?_
              rotate_left
              · intro w hSw; (try dsimp only at hSw); go_simp; (try with_reducible rfl)
              try simp only [Act.put, List.setIfInBounds_toArray, List.set_cons_zero, List.set_cons_succ]
              refine wpAnyH_step (i := 9) (d := some 69) (v := ?_) rfl rfl (by kernel_rfl) (by kernel_rfl) (by kernel_rfl) (fun _ _ _ h => h) (Or.inl ⟨by rfl, ?_⟩) (by assumption) ?_
              rotate_left
              · intro w hSw; (try dsimp only at hSw); go_simp; (try with_reducible rfl)
              try simp only [Act.put, List.setIfInBounds_toArray, List.set_cons_zero, List.set_cons_succ]
              refine wpAnyH_step (i := 10) (d := some 70) (v := ?_) rfl rfl (by kernel_rfl) (by kernel_rfl) (by kernel_rfl) (fun _ _ _ h => h) (Or.inl ⟨by rfl, ?_⟩) (by assumption) ?_
              rotate_left
              · intro w hSw; (try dsimp only at hSw); go_simp; (try with_reducible rfl)
              try simp only [Act.put, List.setIfInBounds_toArray, List.set_cons_zero, List.set_cons_succ]
              refine wpAnyH_ready (rs := [11]) (by kernel_rfl) (by simp) ?_
              refine AllReadyH.cons rfl (fun K hK => ?_) AllReadyH.nil
              go_simp
              refine HSet.out.mono ?_
              rintro e w4 ⟨rfl, ⟨N4, hN4, ho4⟩, hb4⟩
              have HO4 := Lib.hid ho4
              clear ho4
              (try go_wp2_with fail)
              refine hK.out _ _ ?_ (fun hHeld => ?_)
              · exact HS.out _ (Hbw.out.drew.trans hb4)
              clear hK K
              try simp only [Act.put, List.setIfInBounds_toArray, List.set_cons_zero, List.set_cons_succ]
              refine wpAnyH_done (by kernel_rfl) ?_ _
              have Hbw4 := Lib.hid hHeld.2
              clear hHeld
              go_wp2_with fail
              go_roundw
              case rel => exact ⟨k + 1, N4, _, _, by omega, by omega, by go_num, HO4.out, HMt.out, HMn.out, Hbw4.out⟩
              case measure => simp [intOf]; omega
            · have qa : (x.a == 0) = false := by simpa using ha
              go_wp2_with fail
              go_roundw
              case rel => exact ⟨k + 1, N', m, over, by omega, by omega, by go_num, Hmo.out, Htot.out, Hne.out, Hbw.out⟩
              case measure => simp [intOf]; omega
          · have q1 : ¬ (k : Int) < (N : Int) := by omega
            have H5 := Lib.hid (show MObj (wr.alloc O) base p base N' most m over ∧ Was (wr.alloc O) wr.heap.size m 0 ∧ Below base w0 (wr.alloc O) ∧ base ≤ wr.heap.size from ⟨Hmo.out.later (bel_alloc (Below.refl _ _) O), HWas.out m wr, bel_at Hbw.out (Nat.le_of_eq HB.out.2.2.symm) (bel_alloc (Below.refl _ _) O), by have := HB.out; have := Hbw.out.size; omega⟩)
            clear Hmo Hbw HFew HNew
            go_wp2_with fail
            obtain ⟨w5, hw5⟩ : ∃ w5, wr.alloc O = w5 := ⟨_, rfl⟩
            obtain ⟨q, hq⟩ : ∃ q, wr.heap.size = q := ⟨_, rfl⟩
            rw [hw5, hq] at H5
            rw [hw5, hq]
            clear hw5 hq hmk
            have Hq := Lib.hid H5.out.2.2.2
            go_loopw [11] (fun i wr => ∃ j : Nat, j ≤ 512 ∧ i = .int .i64 (j : Int) ∧ MObj wr base p base N' most m over ∧ Was wr q m j ∧ Below base w0 wr) (fun i _ => 512 - (intOf i).toNat)
            case atStart => exact ⟨0, by omega, rfl, H5.out.1, H5.out.2.1, H5.out.2.2.1⟩
            case round =>
              obtain ⟨j, hj, rfl, hmo2, hwas2, hbw2⟩ := hrel
              have Hmo2 := Lib.hid hmo2
              have Hwas2 := Lib.hid hwas2
              have Hbw2 := Lib.hid hbw2
              have Hqn := Lib.hid (hwas2.not hmo2)
              clear hmo2 hwas2 hbw2 H5
              by_cases hj5 : j < 512
              · have q2 : (j : Int) < 512 := by omega
                have r1 : (j : Int).tmod 256 = ((j % 256 : Nat) : Int) := by rw [Int.tmod_eq_emod_of_nonneg (by omega)]; omega
                by_cases h256 : 256 ≤ j
                · have q3 : (256 : Int) ≤ (j : Int) := by omega
                  have dd : decide (256 ≤ j) = true := by simp; omega
                  have HG := Lib.hid (get_any wr base p base N' most m over Hmo2.out true ((j % 256 : Nat) : Int) (by omega) (by omega))
                  go_wp2_with fail
                  refine HG.out.mono ?_
                  rintro r w6 ⟨rfl, hb6⟩
                  have Hmo6 := Lib.hid (Hmo2.out.later hb6)
                  have Hwas6 := Lib.hid (Hwas2.out.later hb6)
                  have Hbw6 := Lib.hid (bel_at Hbw2.out (Nat.le_of_eq HB.out.2.2.symm) hb6)
                  obtain ⟨fz, s, kc, -⟩ := Hwas6.out.cell j hj5
                  clear hb6
                  go_wp2_with fail
                  go_roundw
                  case rel => exact ⟨j + 1, by omega, by go_num, Hmo6.out.setOther q j _ (Ne.symm Hqn.out.1) (Ne.symm Hqn.out.2), Hwas6.out.set hj5 _ (by rw [dd]; simp), Hbw6.out.setCell Hq.out _⟩
                  case measure => simp [intOf]; omega
                · have q3 : ¬ (256 : Int) ≤ (j : Int) := by omega
                  have dd : decide (256 ≤ j) = false := by simp; omega
                  have HG := Lib.hid (get_any wr base p base N' most m over Hmo2.out false ((j % 256 : Nat) : Int) (by omega) (by omega))
                  go_wp2_with fail
                  refine HG.out.mono ?_
                  rintro r w6 ⟨rfl, hb6⟩
                  have Hmo6 := Lib.hid (Hmo2.out.later hb6)
                  have Hwas6 := Lib.hid (Hwas2.out.later hb6)
                  have Hbw6 := Lib.hid (bel_at Hbw2.out (Nat.le_of_eq HB.out.2.2.symm) hb6)
                  obtain ⟨fz, s, kc, -⟩ := Hwas6.out.cell j hj5
                  clear hb6
                  go_wp2_with fail
                  go_roundw
                  case rel => exact ⟨j + 1, by omega, by go_num, Hmo6.out.setOther q j _ (Ne.symm Hqn.out.1) (Ne.symm Hqn.out.2), Hwas6.out.set hj5 _ (by rw [dd]; simp), Hbw6.out.setCell Hq.out _⟩
                  case measure => simp [intOf]; omega
              · have q2 : ¬ (j : Int) < 512 := by omega
                obtain rfl : j = 512 := by omega
                have HU := Lib.hid (used_any wr base p base N' most m over Hmo2.out)
                have HKx := Lib.hid (HKB.out _ Hbw2.out)
                obtain ⟨⟨k5, k6, k7⟩, -⟩ := HKx.out
                have HSet := Lib.hid (set_to wr base p base N' most m over Hmo2.out (by have := HM.out; omega) Htot.out (by omega) e n hon.1 hon.2 t (by have := HLt.out; omega))
                have HF := Lib.hid (set_facts most m over e n t)
                have HMt := Lib.hid (setM_tot Htot.out e n t)
                rw [HS0.out] at HSet
                obtain ⟨F, hF⟩ : ∃ F, setE most m e n t = F := ⟨_, rfl⟩
                obtain ⟨m2, hm2⟩ : ∃ m2, setM most m e n t = m2 := ⟨_, rfl⟩
                obtain ⟨o2, ho2⟩ : ∃ o2, setO most m over e n t = o2 := ⟨_, rfl⟩
                rw [hF, hm2, ho2] at HSet
                rw [hF, hm2, ho2] at HF
                rw [hm2] at HMt
                obtain ⟨T, hT⟩ : ∃ T, tot m = T := ⟨_, rfl⟩
                rw [hT] at HU
                have HT := Lib.hid hT
                clear hF hm2 ho2 hT k4
                go_wp2_with fail
                refine HU.out.mono ?_
                rintro r w6 ⟨rfl, rfl⟩
                go_wp2_with fail
                refine HSet.out.mono ?_
                rintro r w7 ⟨rfl, ⟨N2, hN2, hmo7⟩, hto⟩
                have Hmo7 := Lib.hid hmo7
                have Hwas7 := Lib.hid (Hwas2.out.kept (hto.block q Hwas2.out.lt Hqn.out.1 Hqn.out.2))
                have Hbw7 := Lib.hid (Hbw2.out.trans (hto.below Hp.out (Nat.le_refl _) (by have := HB.out; have := Hbw2.out.size; omega)))
                clear hmo7 hto HSet HU hN2 k5 k6 k7
                go_wp2_with fail
                go_loopw [14, 15, 16, 17] (fun i a b c wr => ∃ k : Nat, k ≤ 512 ∧ i = .int .i64 (k : Int) ∧ MObj wr base p base N2 most m2 o2 ∧ Was wr q m 512 ∧ Below base w0 wr) (fun i _ _ _ _ => 512 - (intOf i).toNat)
                case atStart => exact ⟨0, by omega, rfl, Hmo7.out, Hwas7.out, Hbw7.out⟩
                case round =>
                  obtain ⟨j, hj, rfl, hmo8, hwas8, hbw8⟩ := hrel
                  have Hmo8 := Lib.hid hmo8
                  have Hwas8 := Lib.hid hwas8
                  have Hbw8 := Lib.hid hbw8
                  clear hmo8 hwas8 hbw8 Hmo7 Hwas7 Hbw7
                  by_cases hj5 : j < 512
                  · have q2 : (j : Int) < 512 := by omega
                    have r1 : (j : Int).tmod 256 = ((j % 256 : Nat) : Int) := by rw [Int.tmod_eq_emod_of_nonneg (by omega)]; omega
                    by_cases h256 : 256 ≤ j
                    · have q3 : (256 : Int) ≤ (j : Int) := by omega
                      have dd : decide (256 ≤ j) = true := by simp; omega
                      obtain ⟨R, hR⟩ : ∃ R : Nat, j % 256 = R := ⟨_, rfl⟩
                      have hba : base ≤ wr.heap.size := by have := HB.out; have := Hbw8.out.size; omega
                      have HMw := Lib.hid (Hmo8.out.later (bel_alloc (Below.refl _ _) (.cells #[.bool true, .int .i64 (R : Int)] 24)))
                      have HG := Lib.hid (get_any (wr.alloc (.cells #[.bool true, .int .i64 (R : Int)] 24)) base p base N2 most m2 o2 HMw.out true (R : Int) (by omega) (by omega))
                      have HK2 := Lib.hid (show ∀ W, Below (wr.alloc (.cells #[.bool true, .int .i64 (R : Int)] 24)).heap.size (wr.alloc (.cells #[.bool true, .int .i64 (R : Int)] 24)) W → ((W.cell? ⟨wr.heap.size, 0, none⟩ = some (.bool true) ∧ W.cell? ⟨wr.heap.size, 1, none⟩ = some (.int .i64 (R : Int))) ∧ ((W.cell? ⟨B, 1, none⟩ = some (.bool e) ∧ W.cell? ⟨B, 2, none⟩ = some (.int .i64 n) ∧ W.cell? ⟨B, 3, none⟩ = some (.string S)) ∧ ∃ s, W.cell? ⟨q, j, none⟩ = some (.string (st s)) ∧ s = (m true (R : Int)).getD []) ∧ MObj W base p base N2 most m2 o2 ∧ Was W q m 512 ∧ Below base w0 W) from fun W hW => by
                        have hB := bel_call (bel_alloc (Below.refl _ _) (.cells #[.bool true, .int .i64 (R : Int)] 24)) hW
                        have hbw := bel_at Hbw8.out (Nat.le_of_eq HB.out.2.2.symm) hB
                        obtain ⟨_, s, kc, ks⟩ := (Hwas8.out.later hB).cell j hj5
                        refine ⟨⟨cellB hW (by simp [go_sem]), cellB hW (by simp [go_sem])⟩, ⟨(HKB.out _ hbw).1, s, kc, ?_⟩, Hmo8.out.later hB, Hwas8.out.later hB, hbw⟩
                        rw [ks hj5, dd, hR])
                      rw [hR] at r1
                      go_wp2_with fail
                      refine HG.out.mono ?_
                      rintro r w9 ⟨rfl, hb9⟩
                      obtain ⟨⟨b0, b1⟩, ⟨⟨k5, k6, k7⟩, s, kc, hs⟩, hmo9, hwas9, hbw9⟩ := HK2.out _ hb9
                      have Hmo9 := Lib.hid hmo9
                      have Hwas9 := Lib.hid hwas9
                      have Hbw9 := Lib.hid hbw9
                      have Hs := Lib.hid hs
                      clear hmo9 hwas9 hbw9 hb9 hs HK2 HG HMw hba
                      by_cases hsame : (true = e ∧ (R : Int) = n) ∧ F = 0
                      · obtain ⟨⟨he, hn⟩, hF0⟩ := hsame
                        subst hF0 he hn
                        obtain ⟨hf1, hf2, -⟩ := HF.out.1 rfl
                        rw [hf1, hf2]
                        rw [HS0.out]
                        by_cases ht0 : t = []
                        · have hSe : S = ⟨#[]⟩ := by rw [← HS0.out, ht0]; rfl
                          subst hSe
                          rw [ht0]
                          clear hf1 hf2
                          go_wp2_with fail
                          go_roundw
                          case rel => exact ⟨j + 1, by omega, by go_num, Hmo9.out, Hwas9.out, Hbw9.out⟩
                          case measure => simp [intOf]; omega
                        · obtain ⟨s1, s2⟩ := st_full ht0
                          rw [HS0.out] at s1 s2
                          have ht1 : (!t.isEmpty) = true := by simpa using ht0
                          rw [ht1]
                          clear hf1 hf2
                          go_wp2_with fail
                          go_roundw
                          case rel => exact ⟨j + 1, by omega, by go_num, Hmo9.out, Hwas9.out, Hbw9.out⟩
                          case measure => simp [intOf]; omega
                      · have hmm : m2 true (R : Int) = m true (R : Int) := by
                          by_cases hF0 : F = 0
                          · exact (HF.out.1 hF0).2.2 _ _ (fun h => hsame ⟨h, hF0⟩)
                          · rw [HF.out.2.1 hF0]
                        rw [hmm]
                        have hss : ∃ (b : Bool) (s' : List UInt8), (m true (R : Int)).isSome = b ∧ s = s' ∧ (m true (R : Int)).getD [] = s' ∧ ((b = false ∧ s' = []) ∨ (b = true ∧ s' ≠ [])) := by
                          rw [Hs.out]
                          cases hv : m true (R : Int) with
                          | none => exact ⟨false, [], rfl, rfl, rfl, .inl ⟨rfl, rfl⟩⟩
                          | some v => exact ⟨true, v, rfl, rfl, rfl, .inr ⟨rfl, fun h => Hne.out _ _ (by rw [hv, h])⟩⟩
                        obtain ⟨b, s', hb, rfl, hg, hor⟩ := hss
                        rw [hb, hg]
                        clear hb hg hmm
                        have hdiff : (e = false) ∨ (e = true ∧ ¬ (R : Int) = n) ∨ (e = true ∧ (R : Int) = n ∧ ¬ F = 0) := by
                          by_cases he : true = e
                          · by_cases hn : (R : Int) = n
                            · exact .inr (.inr ⟨he.symm, hn, fun h => hsame ⟨⟨he, hn⟩, h⟩⟩)
                            · exact .inr (.inl ⟨he.symm, hn⟩)
                          · exact .inl (by cases e <;> simp_all)
                        clear hsame
                        rcases hor with ⟨rfl, rfl⟩ | ⟨rfl, hs0⟩
                        · rw [st_nil] at kc ⊢
                          rcases hdiff with rfl | ⟨rfl, hn⟩ | ⟨rfl, rfl, hF0⟩
                          · have hx : True := trivial
                            go_wp2_with fail
                            go_roundw
                            case rel => exact ⟨j + 1, by omega, by go_num, Hmo9.out, Hwas9.out, Hbw9.out⟩
                            case measure => simp [intOf]; omega
                          · have hnb : ((R : Int) == n) = false := by simpa using hn
                            go_wp2_with fail
                            go_roundw
                            case rel => exact ⟨j + 1, by omega, by go_num, Hmo9.out, Hwas9.out, Hbw9.out⟩
                            case measure => simp [intOf]; omega
                          · have hFb : (F == 0) = false := by simpa using hF0
                            go_wp2_with fail
                            go_roundw
                            case rel => exact ⟨j + 1, by omega, by go_num, Hmo9.out, Hwas9.out, Hbw9.out⟩
                            case measure => simp [intOf]; omega
                        · obtain ⟨s1, s2⟩ := st_full hs0
                          obtain ⟨S3, hS3⟩ : ∃ S3, st s = S3 := ⟨_, rfl⟩
                          rw [hS3] at s1 s2 kc ⊢
                          clear hS3
                          rcases hdiff with rfl | ⟨rfl, hn⟩ | ⟨rfl, rfl, hF0⟩
                          · have hx : True := trivial
                            go_wp2_with fail
                            go_roundw
                            case rel => exact ⟨j + 1, by omega, by go_num, Hmo9.out, Hwas9.out, Hbw9.out⟩
                            case measure => simp [intOf]; omega
                          · have hnb : ((R : Int) == n) = false := by simpa using hn
                            go_wp2_with fail
                            go_roundw
                            case rel => exact ⟨j + 1, by omega, by go_num, Hmo9.out, Hwas9.out, Hbw9.out⟩
                            case measure => simp [intOf]; omega
                          · have hFb : (F == 0) = false := by simpa using hF0
                            go_wp2_with fail
                            go_roundw
                            case rel => exact ⟨j + 1, by omega, by go_num, Hmo9.out, Hwas9.out, Hbw9.out⟩
                            case measure => simp [intOf]; omega
                    · have q3 : ¬ (256 : Int) ≤ (j : Int) := by omega
                      have dd : decide (256 ≤ j) = false := by simp; omega
                      obtain ⟨R, hR⟩ : ∃ R : Nat, j % 256 = R := ⟨_, rfl⟩
                      have hba : base ≤ wr.heap.size := by have := HB.out; have := Hbw8.out.size; omega
                      have HMw := Lib.hid (Hmo8.out.later (bel_alloc (Below.refl _ _) (.cells #[.bool false, .int .i64 (R : Int)] 24)))
                      have HG := Lib.hid (get_any (wr.alloc (.cells #[.bool false, .int .i64 (R : Int)] 24)) base p base N2 most m2 o2 HMw.out false (R : Int) (by omega) (by omega))
                      have HK2 := Lib.hid (show ∀ W, Below (wr.alloc (.cells #[.bool false, .int .i64 (R : Int)] 24)).heap.size (wr.alloc (.cells #[.bool false, .int .i64 (R : Int)] 24)) W → ((W.cell? ⟨wr.heap.size, 0, none⟩ = some (.bool false) ∧ W.cell? ⟨wr.heap.size, 1, none⟩ = some (.int .i64 (R : Int))) ∧ ((W.cell? ⟨B, 1, none⟩ = some (.bool e) ∧ W.cell? ⟨B, 2, none⟩ = some (.int .i64 n) ∧ W.cell? ⟨B, 3, none⟩ = some (.string S)) ∧ ∃ s, W.cell? ⟨q, j, none⟩ = some (.string (st s)) ∧ s = (m false (R : Int)).getD []) ∧ MObj W base p base N2 most m2 o2 ∧ Was W q m 512 ∧ Below base w0 W) from fun W hW => by
                        have hB := bel_call (bel_alloc (Below.refl _ _) (.cells #[.bool false, .int .i64 (R : Int)] 24)) hW
                        have hbw := bel_at Hbw8.out (Nat.le_of_eq HB.out.2.2.symm) hB
                        obtain ⟨_, s, kc, ks⟩ := (Hwas8.out.later hB).cell j hj5
                        refine ⟨⟨cellB hW (by simp [go_sem]), cellB hW (by simp [go_sem])⟩, ⟨(HKB.out _ hbw).1, s, kc, ?_⟩, Hmo8.out.later hB, Hwas8.out.later hB, hbw⟩
                        rw [ks hj5, dd, hR])
                      rw [hR] at r1
                      go_wp2_with fail
                      refine HG.out.mono ?_
                      rintro r w9 ⟨rfl, hb9⟩
                      obtain ⟨⟨b0, b1⟩, ⟨⟨k5, k6, k7⟩, s, kc, hs⟩, hmo9, hwas9, hbw9⟩ := HK2.out _ hb9
                      have Hmo9 := Lib.hid hmo9
                      have Hwas9 := Lib.hid hwas9
                      have Hbw9 := Lib.hid hbw9
                      have Hs := Lib.hid hs
                      clear hmo9 hwas9 hbw9 hb9 hs HK2 HG HMw hba
                      by_cases hsame : (false = e ∧ (R : Int) = n) ∧ F = 0
                      · obtain ⟨⟨he, hn⟩, hF0⟩ := hsame
                        subst hF0 he hn
                        obtain ⟨hf1, hf2, -⟩ := HF.out.1 rfl
                        rw [hf1, hf2]
                        rw [HS0.out]
                        by_cases ht0 : t = []
                        · have hSe : S = ⟨#[]⟩ := by rw [← HS0.out, ht0]; rfl
                          subst hSe
                          rw [ht0]
                          clear hf1 hf2
                          go_wp2_with fail
                          go_roundw
                          case rel => exact ⟨j + 1, by omega, by go_num, Hmo9.out, Hwas9.out, Hbw9.out⟩
                          case measure => simp [intOf]; omega
                        · obtain ⟨s1, s2⟩ := st_full ht0
                          rw [HS0.out] at s1 s2
                          have ht1 : (!t.isEmpty) = true := by simpa using ht0
                          rw [ht1]
                          clear hf1 hf2
                          go_wp2_with fail
                          go_roundw
                          case rel => exact ⟨j + 1, by omega, by go_num, Hmo9.out, Hwas9.out, Hbw9.out⟩
                          case measure => simp [intOf]; omega
                      · have hmm : m2 false (R : Int) = m false (R : Int) := by
                          by_cases hF0 : F = 0
                          · exact (HF.out.1 hF0).2.2 _ _ (fun h => hsame ⟨h, hF0⟩)
                          · rw [HF.out.2.1 hF0]
                        rw [hmm]
                        have hss : ∃ (b : Bool) (s' : List UInt8), (m false (R : Int)).isSome = b ∧ s = s' ∧ (m false (R : Int)).getD [] = s' ∧ ((b = false ∧ s' = []) ∨ (b = true ∧ s' ≠ [])) := by
                          rw [Hs.out]
                          cases hv : m false (R : Int) with
                          | none => exact ⟨false, [], rfl, rfl, rfl, .inl ⟨rfl, rfl⟩⟩
                          | some v => exact ⟨true, v, rfl, rfl, rfl, .inr ⟨rfl, fun h => Hne.out _ _ (by rw [hv, h])⟩⟩
                        obtain ⟨b, s', hb, rfl, hg, hor⟩ := hss
                        rw [hb, hg]
                        clear hb hg hmm
                        have hdiff : (e = true) ∨ (e = false ∧ ¬ (R : Int) = n) ∨ (e = false ∧ (R : Int) = n ∧ ¬ F = 0) := by
                          by_cases he : false = e
                          · by_cases hn : (R : Int) = n
                            · exact .inr (.inr ⟨he.symm, hn, fun h => hsame ⟨⟨he, hn⟩, h⟩⟩)
                            · exact .inr (.inl ⟨he.symm, hn⟩)
                          · exact .inl (by cases e <;> simp_all)
                        clear hsame
                        rcases hor with ⟨rfl, rfl⟩ | ⟨rfl, hs0⟩
                        · rw [st_nil] at kc ⊢
                          rcases hdiff with rfl | ⟨rfl, hn⟩ | ⟨rfl, rfl, hF0⟩
                          · have hx : True := trivial
                            go_wp2_with fail
                            go_roundw
                            case rel => exact ⟨j + 1, by omega, by go_num, Hmo9.out, Hwas9.out, Hbw9.out⟩
                            case measure => simp [intOf]; omega
                          · have hnb : ((R : Int) == n) = false := by simpa using hn
                            go_wp2_with fail
                            go_roundw
                            case rel => exact ⟨j + 1, by omega, by go_num, Hmo9.out, Hwas9.out, Hbw9.out⟩
                            case measure => simp [intOf]; omega
                          · have hFb : (F == 0) = false := by simpa using hF0
                            go_wp2_with fail
                            go_roundw
                            case rel => exact ⟨j + 1, by omega, by go_num, Hmo9.out, Hwas9.out, Hbw9.out⟩
                            case measure => simp [intOf]; omega
                        · obtain ⟨s1, s2⟩ := st_full hs0
                          obtain ⟨S3, hS3⟩ : ∃ S3, st s = S3 := ⟨_, rfl⟩
                          rw [hS3] at s1 s2 kc ⊢
                          clear hS3
                          rcases hdiff with rfl | ⟨rfl, hn⟩ | ⟨rfl, rfl, hF0⟩
                          · have hx : True := trivial
                            go_wp2_with fail
                            go_roundw
                            case rel => exact ⟨j + 1, by omega, by go_num, Hmo9.out, Hwas9.out, Hbw9.out⟩
                            case measure => simp [intOf]; omega
                          · have hnb : ((R : Int) == n) = false := by simpa using hn
                            go_wp2_with fail
                            go_roundw
                            case rel => exact ⟨j + 1, by omega, by go_num, Hmo9.out, Hwas9.out, Hbw9.out⟩
                            case measure => simp [intOf]; omega
                          · have hFb : (F == 0) = false := by simpa using hF0
                            go_wp2_with fail
                            go_roundw
                            case rel => exact ⟨j + 1, by omega, by go_num, Hmo9.out, Hwas9.out, Hbw9.out⟩
                            case measure => simp [intOf]; omega
                  · have q2 : ¬ (j : Int) < 512 := by omega
                    clear hj hj5
                    have HU := Lib.hid (used_any wr base p base N2 most m2 o2 Hmo8.out)
                    have HO := Lib.hid (over_any wr base p base N2 most m2 o2 Hmo8.out)
                    have Haw := Lib.hid (HA.out _ (HKB.out _ Hbw8.out).2)
                    have Hbl := Lib.hid (HKB.out _ Hbw8.out).2
                    obtain ⟨T2, hT2⟩ : ∃ T2, tot m2 = T2 := ⟨_, rfl⟩
                    have ht2 := HMt.out
                    rw [hT2] at HU ht2
                    by_cases hF0 : F = 0
                    · subst hF0
                      clear hT2
                      go_wp2_with (first | (go_at_call 20; refine HU.out.mono ?_; rintro r w9 ⟨rfl, rfl⟩) | (go_at_call 21; refine HO.out.mono ?_; rintro r w9 ⟨rfl, rfl⟩))
                      refine Haw.out.mono ?_
                      rintro r w10 ⟨rfl, hb10⟩
                      go_wp2_with fail
                      go_ret
                      exact ⟨rfl, bel_call Hbl.out hb10⟩
                    · have qF : (F == 0) = false := by simpa using hF0
                      have hTT : T2 = T := by rw [← hT2, ← HT.out, HF.out.2.1 hF0]
                      subst hTT
                      clear hT2
                      by_cases hF13 : F = 13
                      · have ho : o2 = true := HF.out.2.2.1 hF13
                        subst hF13 ho
                        go_wp2_with (first | (go_at_call 20; refine HU.out.mono ?_; rintro r w9 ⟨rfl, rfl⟩) | (go_at_call 21; refine HO.out.mono ?_; rintro r w9 ⟨rfl, rfl⟩))
                        refine Haw.out.mono ?_
                        rintro r w10 ⟨rfl, hb10⟩
                        go_wp2_with fail
                        go_ret
                        exact ⟨rfl, bel_call Hbl.out hb10⟩
                      · have qF13 : (F == 13) = false := by simpa using hF13
                        go_wp2_with (first | (go_at_call 20; refine HU.out.mono ?_; rintro r w9 ⟨rfl, rfl⟩) | (go_at_call 21; refine HO.out.mono ?_; rintro r w9 ⟨rfl, rfl⟩))
                        refine Haw.out.mono ?_
                        rintro r w10 ⟨rfl, hb10⟩
                        go_wp2_with fail
                        go_ret
                        exact ⟨rfl, bel_call Hbl.out hb10⟩
end Go.Proofs.YtnfpfpppnfighaaDoor
