/- remap: same: a map against the document's. -/
import Derived.Test.YtnfpfpppnfighaaDoorPQ
namespace Go.Proofs.YtnfpfpppnfighaaDoor
open Go.Shelf Go.RowKit Go.Maps Go.Lib
set_option linter.unusedVariables false
set_option linter.unusedSimpArgs false
set_option maxRecDepth 100000
attribute [local go_sem] Oper.semAt_some
set_option maxHeartbeats 40000000 in
theorem same_any (w : World) (base base2 p b N : Nat) (most mostd : Int) (m : MF) (over : Bool) (v : Value) (h : MObj w base p b N most m over) (hd : Dom m) (hO : OwnD w base2 v (ents m)) (ht : tot m ≤ 1000000) :
    Calls Tryd.prog 25 #[.pointer (some ⟨p, 0, none⟩), .agg #[v, .int .i64 mostd, .bool over]] w fun r w' => r = .returned (.bool true) ∧ Below w.heap.size w w' := by
  obtain ⟨ad, cap, rfl, -⟩ := hO.form
  have HLe := Lib.hid (show (ents m).length ≤ 1000000 from Nat.le_trans (ents_len m) (by omega))
  have HUs := Lib.hid (show usedS (ents m) ≤ 1000000000 from by rw [usedS_ents]; omega)
  have HLk := Lib.hid (show (ents m).length = (ksOf m).length from by rw [ents_map, List.length_map])
  obtain ⟨NN, hNN⟩ : ∃ NN, (ents m).length = NN := ⟨_, rfl⟩
  have HNN := Lib.hid hNN
  have hn5 : NN ≤ 512 := by rw [← hNN]; exact ents_len m
  have HM := Lib.hid h
  have HD := Lib.hid hd
  have HO := Lib.hid hO
  rw [hNN] at HO ⊢
  clear h hd hO hNN
  have hfe := func_eq 38
  obtain ⟨Z, hZ⟩ : ∃ Z, w.heap.size = Z := ⟨_, rfl⟩
  have HZ := Lib.hid hZ
  refine (callsIn_wide (n := 3)).1 (callsIn_of_wp_marks Tryd.func25 rfl trivial ?_ rfl)
  simp only [Tryd.ntmps25, List.size_toArray, List.length_cons, List.length_nil, Nat.reduceAdd, Nat.reduceSub, Array.replicate_succ, Array.replicate_zero, List.push_toArray, List.append_toArray, List.nil_append, List.cons_append]
  gi_wp2_with (refine ⟨trivial, ?_⟩; gi_at_call 26; refine (callsIn_wide.2 (all_any _ (.inr ⟨_, rfl⟩) _)).mono ?_; rintro r w7 ⟨rfl, rfl⟩)
  obtain ⟨w8, hw8⟩ : ∃ w8, ((((w.alloc (.cells #[.slice ad NN cap, .int .i64 mostd, .bool over] 54)).alloc (.cells #[.bool false] 4)).alloc (.cells #[.int .i64 0] 3)).alloc (.cells #[.pointer (some ⟨p, 0, none⟩)] 42)) = w8 := ⟨_, rfl⟩
  have HB8 := Lib.hid (show Below w.heap.size w w8 from by rw [← hw8]; exact bel_alloc (bel_alloc (bel_alloc (bel_alloc (Below.refl _ _) _) _) _) _)
  have HC8 := Lib.hid (show (w8.cell? ⟨Z, 0, none⟩ = some (.slice ad NN cap) ∧ w8.cell? ⟨Z, 1, none⟩ = some (.int .i64 mostd) ∧ w8.cell? ⟨Z, 2, none⟩ = some (.bool over)) ∧ w8.heap[Z + 1]? = some (.cells #[.bool false] 4 (0, 0)) ∧ w8.heap[Z + 2]? = some (.cells #[.int .i64 0] 3 (0, 0)) ∧ w8.cell? ⟨Z + 3, 0, none⟩ = some (.pointer (some ⟨p, 0, none⟩)) ∧ w8.heap.size = Z + 4 from by
    rw [← hw8, ← hZ]
    refine ⟨⟨by simp [go_sem], by simp [go_sem], by simp [go_sem]⟩, ?_, ?_, by simp [go_sem], by simp⟩
    · have h := World.alloc_heap_new (w.alloc (.cells #[.slice ad NN cap, .int .i64 mostd, .bool over] 54)) (.cells #[.bool false] 4)
      rw [World.size_alloc] at h
      exact (Below.heap_alloc _ _ _ (by simp)).trans ((Below.heap_alloc _ _ _ (by simp)).trans h)
    · have h := World.alloc_heap_new ((w.alloc (.cells #[.slice ad NN cap, .int .i64 mostd, .bool over] 54)).alloc (.cells #[.bool false] 4)) (.cells #[.int .i64 0] 3)
      rw [World.size_alloc, World.size_alloc] at h
      exact (Below.heap_alloc _ _ _ (by simp)).trans h)
  rw [hw8]
  rw [show Z + 1 + 1 + 1 = Z + 3 from rfl, show Z + 1 + 1 = Z + 2 from rfl]
  clear hw8 hZ
  have HM8 := Lib.hid (HM.out.later HB8.out)
  have HO8 := Lib.hid (HO.out.call HB8.out)
  refine gen_tmps ?_
  intro T hT
  simp only at hT
  refine range_law (n := 2) (m := 1) (gf := 38) (lb := #[.pointer (some ⟨Z + 3, 0, none⟩)]) (by rw [hT]; rfl) (enters_of Tryd.func38 (by kernel_rfl) rfl) (encs := encA m) (fun _ => rfl)
    (S := fun ys => ys = ksOf m) (Sp := fun pre => ∃ t, ksOf m = pre ++ t) (V := fun pre x => ∃ t, ksOf m = pre ++ x :: t) (N := 512) (Kp := KeepsCells w8.heap.size) (fun h k => ⟨Nat.le_trans h.1 k.1, fun i o hB hi ho => k.2 i o hB (h.2 i o hB hi ho) ho⟩)
    (fun W l o o' _ h1 h2 _ => ⟨by simp [World.putObj], fun k o1 _ hk ho1 => (World.putObj_heap_other (fun e => by subst e; rw [h1] at hk; cases hk; rw [h2] at ho1; cases ho1)).trans hk⟩)
    (fun pre W => W.heap[Z + 2]? = some (.cells #[.int .i64 (pre.length : Int)] 3 (0, 0)) ∧ Chg w8 W [Z + 2]) (fun _ _ _ => False) ?hI ?hIx ⟨HC8.out.2.2.1, Chg.of_below (Below.refl _ _)⟩
    (fun x a' W => ∃ q S, a' = { tmps := (((T.setIfInBounds 14 (codeV x.e x.n)).setIfInBounds 15 (.string S)).setIfInBounds 7 (.pointer (some ⟨q, 0, none⟩))).setIfInBounds 8 (.string S), defers := [] } ∧ S = st ((m x.e x.n).getD []) ∧ W.cell? ⟨q, 0, none⟩ = some (.bool x.e) ∧ W.cell? ⟨q, 1, none⟩ = some (.int .i64 x.n)) ?hAx ?hit ?assign ?body ?done ?stop
  case hI => exact fun s W W' row h hg hr => ⟨(grownBy_keeps_cells hg (fun r e => (hr r e).2) h.1 rfl).trans h.1, h.2.steps hg (fun r e => (hr r e).1)⟩
  case hIx => exact fun c s W W' row h hg hr => h
  case hAx =>
    rintro x a' _ W W' row ⟨q, S, rfl, hS, k0, k1⟩ hg hr
    exact ⟨q, S, rfl, hS, cell_kept k0 hg (fun r e => (hr r e).2), cell_kept k1 hg (fun r e => (hr r e).2)⟩
  case hit =>
    rintro W0 ⟨o, o', _, _, rfl⟩ hI0
    refine all_iter 2 (by decide) (Z + 3) w8.heap.size p b N base most m over HD.out _ _ _ (by simp; omega) (fun pre X X' h hb => ⟨(hb.block _ (Array.getElem?_eq_some_iff.1 h.1).1).trans h.1, h.2.trans (Chg.of_below hb)⟩) (fun pre X h => ⟨h.2.cell (by simp) HC8.out.2.2.2.1, ?_⟩) (fun X X' h => h)
    have hp := HM8.out
    have hx : p ≠ Z + 2 ∧ b ≠ Z + 2 := by have h1 := HM.out.lt; have h2 := HM.out.map.lt; have h3 := HZ.out; omega
    exact ⟨(h.2.block p hp.lt (by simpa using hx.1)).trans hp.blk, hp.map.kept (h.2.block b hp.map.lt (by simpa using hx.2)), hp.lo⟩
  case assign =>
    rintro l pre x W K hI hK
    have hb := bel_alloc (Below.refl W.heap.size W) (.cells #[.bool x.e, .int .i64 x.n] 24)
    have HKk := Lib.hid (fun (a : Act) h => hK a (W.alloc (.cells #[.bool x.e, .int .i64 x.n] 24)) (keepsB hb) (keepsC_below hb) ⟨(hb.block _ (Array.getElem?_eq_some_iff.1 hI.1).1).trans hI.1, hI.2.trans (Chg.of_below hb)⟩ ⟨W.heap.size, st ((m x.e x.n).getD []), h, rfl, by simp [go_sem], by simp [go_sem]⟩)
    clear hK hI hb
    subst hT
    simp only [encA, codeV]
    generalize st ((m x.e x.n).getD []) = S at *
    gi_wp2
    exact HKk.out _ rfl
  case body =>
    rintro l pre x a' W ⟨hi, hch⟩ ⟨q, S, rfl, hS, k0, k1⟩ hlen hv
    obtain ⟨t', ht'⟩ := hv
    have hlt : pre.length < NN := by rw [← HNN.out, HLk.out, ht']; simp
    have hkL : pre.length < (ents m).length := by rw [HNN.out]; exact hlt
    have hel : (ents m)[pre.length] = ⟨x.e, x.n, (m x.e x.n).getD []⟩ := by
      have h1 : (ents m)[pre.length]? = some ⟨x.e, x.n, (m x.e x.n).getD []⟩ := by
        rw [ents_map, List.getElem?_map, ht', List.getElem?_append_right (by omega)]
        simp
      rw [List.getElem?_eq_getElem hkL] at h1
      exact Option.some.inj h1
    obtain ⟨ad', cap', hv', hx⟩ := HO8.out.form
    rw [HNN.out] at hv'
    simp only [Value.slice.injEq] at hv'
    obtain ⟨rfl, -, rfl⟩ := hv'
    obtain ⟨g, rfl, hg, hc⟩ := hx (by rw [HNN.out]; omega)
    obtain ⟨d0, d1, d2⟩ := hc _ hkL
    rw [hel] at d0 d1 d2
    simp only at d0 d1 d2
    rw [← hS] at d2
    have hgne : g ≠ Z + 2 := by
      intro e
      rw [e] at d0
      have := HC8.out.2.2.1
      simp only [World.cell?, this] at d0
      cases hpl : pre.length with
      | zero => rw [hpl] at d0; simp at d0
      | succ k => rw [hpl] at d0; simp at d0
    replace d0 := hch.cell (by simpa using hgne) d0
    replace d1 := hch.cell (by simpa using hgne) d1
    replace d2 := hch.cell (by simpa using hgne) d2
    obtain ⟨⟨y0, y1, y2⟩, -⟩ := HC8.out
    replace y0 := hch.cell (by simp) y0
    obtain ⟨i0, if0⟩ := cell_of_box_a hi
    obtain ⟨I, hI⟩ : ∃ I, pre.length = I := ⟨_, rfl⟩
    have HE := Lib.hid (show ∀ nq, KeepsFrom w8.heap.size W ((W.drewN nq).setCell ⟨Z + 2, 0, none⟩ (.int .i64 ((I + 1 : Nat) : Int))) ∧ KeepsCells w8.heap.size W ((W.drewN nq).setCell ⟨Z + 2, 0, none⟩ (.int .i64 ((I + 1 : Nat) : Int))) ∧ ((W.drewN nq).setCell ⟨Z + 2, 0, none⟩ (.int .i64 ((I + 1 : Nat) : Int))).heap[Z + 2]? = some (.cells #[.int .i64 ((pre ++ [x]).length : Int)] 3 (0, 0)) ∧ Chg w8 ((W.drewN nq).setCell ⟨Z + 2, 0, none⟩ (.int .i64 ((I + 1 : Nat) : Int))) [Z + 2] from fun nq => by
      have hz := HC8.out.2.2.2.2
      refine ⟨⟨by simp [World.setCell, World.drewN], fun k o hk ho hc => (Below.heap_setCell _ _ _ _ (fun e => ?_)).trans ho⟩, ⟨by simp [World.setCell, World.drewN], fun k o hk ho _ => (Below.heap_setCell _ _ _ _ (by show k ≠ Z + 2; omega)).trans ho⟩, ?_, (hch.trans (Chg.of_below (bel_drewN (Below.refl _ _) nq))).trans (chg_set _ _ _ _)⟩
      · have : k = Z + 2 := e
        omega
      · rw [List.length_append, hI]
        exact heap_setCell_box_a _ (show (W.drewN nq).heap[Z + 2]? = _ from hi))
    rw [hI] at d0 d1 d2 i0 hlt
    have v1 : IntKind.i64.wrap ((I : Int) + 1) = ((I + 1 : Nat) : Int) := by rw [IntWalk.i64_in _ (by omega)]; omega
    have q1 : ¬ (NN : Int) ≤ (I : Int) := by omega
    have q3 : ¬ NN ≤ I := by omega
    have q4 : decide (NN ≤ I) = false := by simp; omega
    have q2 : (I : Int) < (NN : Int) := by omega
    have sb : (S.toList != S.toList) = false := by simp
    obtain ⟨E, hE⟩ : ∃ E, x.e = E := ⟨_, rfl⟩
    obtain ⟨R, hR⟩ : ∃ R, x.n = R := ⟨_, rfl⟩
    rw [hE] at d0 k0
    rw [hR] at d1 k1
    rw [hE, hR]
    have HSd := Lib.hid hS
    clear hE hR hS hel hc hx hg hkL ht' t' hlen hch hi y1 y2
    subst hT
    simp only [codeV, List.setIfInBounds_toArray, List.set_cons_zero, List.set_cons_succ]
    gi_wp2_with fail
    refine wpIn_region_quiet_round (by kernel_rfl) (by kernel_rfl) (by kernel_rfl) ?_
    repeat (gi_big_quiet_step (fail))
    refine wpQuietIn_nil ?_
    intro _ hw'
    obtain ⟨nq, hw''⟩ := hw'
    subst hw''
    gi_wp2_with fail
    exact ⟨(HE.out _).1, (HE.out _).2.1, (HE.out _).2.2.1, (HE.out _).2.2.2⟩
  case stop =>
    rintro D c pre W hD _ hF hK
    exact hF.elim
  case done =>
    rintro D ys W9 hD rfl ⟨hi, hch⟩ hK
    rw [← HLk.out, HNN.out] at hi
    obtain ⟨⟨y0, y1, y2⟩, yr, -, -, yz⟩ := HC8.out
    replace y0 := hch.cell (by simp) y0
    replace y1 := hch.cell (by simp) y1
    replace y2 := hch.cell (by simp) y2
    obtain ⟨i0, -⟩ := cell_of_box_a hi
    have hr9 : W9.heap[Z + 1]? = some (.cells #[.bool false] 4 (0, 0)) := (hch.block (Z + 1) (by omega) (by simp)).trans yr
    have HS := Lib.hid (show ∀ W', Below W9.heap.size W9 W' → (W'.cell? ⟨Z + 2, 0, none⟩ = some (.int .i64 (NN : Int)) ∧ W'.cell? ⟨Z, 0, none⟩ = some (.slice ad NN cap) ∧ W'.cell? ⟨Z, 1, none⟩ = some (.int .i64 mostd) ∧ W'.cell? ⟨Z, 2, none⟩ = some (.bool over)) from fun W' h => ⟨cellB h i0, cellB h y0, cellB h y1, cellB h y2⟩)
    have HMo9 := Lib.hid (show MObj W9 base p b N most m over from by
      have hp := HM8.out
      have hx : p ≠ Z + 2 ∧ b ≠ Z + 2 := by have h1 := HM.out.lt; have h2 := HM.out.map.lt; have h3 := HZ.out; omega
      exact ⟨(hch.block p hp.lt (by simpa using hx.1)).trans hp.blk, hp.map.kept (hch.block b hp.map.lt (by simpa using hx.2)), hp.lo⟩)
    have HO9 := Lib.hid (show OwnD W9 base2 (.slice ad NN cap) (ents m) from HO8.out.blocks fun k hk => by
      obtain ⟨_, cs, hc⟩ := HO.out.own hk
      have hkl := (Array.getElem?_eq_some_iff.1 hc).1
      exact hch.block k (Nat.lt_of_lt_of_le hkl HB8.out.size) (by have := HZ.out; simp; omega))
    have HB9 := Lib.hid (show Below w.heap.size w W9 from HB8.out.trans (hch.below HB8.out.size (fun x hx => by simp at hx; have := HZ.out; omega)))
    have HSt := Lib.hid (show ∀ W', Below W9.heap.size W9 W' → ∀ c o v, W'.cell? ⟨c, o, none⟩ = some v → c ≠ Z + 1 → (W'.setCell ⟨Z + 1, 0, none⟩ (.bool true)).cell? ⟨c, o, none⟩ = some v from fun W' _ c o v h hne => (World.cell?_of_block (Below.heap_setCell _ _ _ _ (by exact hne))).trans h)
    have HS2 := Lib.hid (show ∀ W', Below W9.heap.size W9 W' → ((W'.setCell ⟨Z + 1, 0, none⟩ (.bool true)).cell? ⟨Z + 2, 0, none⟩ = some (.int .i64 (NN : Int)) ∧ (W'.setCell ⟨Z + 1, 0, none⟩ (.bool true)).cell? ⟨Z, 0, none⟩ = some (.slice ad NN cap) ∧ (W'.setCell ⟨Z + 1, 0, none⟩ (.bool true)).cell? ⟨Z, 1, none⟩ = some (.int .i64 mostd) ∧ (W'.setCell ⟨Z + 1, 0, none⟩ (.bool true)).cell? ⟨Z, 2, none⟩ = some (.bool over)) from fun W' h => by
      obtain ⟨h0, h1, h2, h3⟩ := HS.out W' h
      exact ⟨HSt.out W' h _ _ _ h0 (by omega), HSt.out W' h _ _ _ h1 (by omega), HSt.out W' h _ _ _ h2 (by omega), HSt.out W' h _ _ _ h3 (by omega)⟩)
    have HFi := Lib.hid (show ∀ W', Below W9.heap.size W9 W' → W'.cell? ⟨Z + 1, 0, none⟩ = some (.bool false) ∧ W'.frozen? ⟨Z + 1, 0, none⟩ = false ∧ Hid ((W'.setCell ⟨Z + 1, 0, none⟩ (.bool true)).heap[D]? = some (.deferred (some [])) ∧ (W'.setCell ⟨Z + 1, 0, none⟩ (.bool true)).cell? ⟨Z + 1, 0, none⟩ = some (.bool true) ∧ Below w.heap.size w (W'.setCell ⟨Z + 1, 0, none⟩ (.bool true))) from fun W' h => by
      have hr := (h.block (Z + 1) (Array.getElem?_eq_some_iff.1 hr9).1).trans hr9
      obtain ⟨c0, f0⟩ := cell_of_box_a hr
      refine ⟨c0, f0, ⟨(Below.heap_setCell _ _ _ _ (by show D ≠ Z + 1; omega)).trans ((h.block D (Array.getElem?_eq_some_iff.1 hK).1).trans hK), World.cell?_setCell_same' _ _ _ (by rw [c0]; rfl), (HB9.out.trans (h.mono HB9.out.size)).setCell (p := ⟨Z + 1, 0, none⟩) (by have := HZ.out; show w.heap.size ≤ Z + 1; omega) _⟩⟩)
    have HDZ := Lib.hid (show w.heap.size ≤ D from by have := HZ.out; omega)
    clear y0 y1 y2 yr yz i0 hr9 hi hch hK hD
    subst hT
    gi_wp2_with fail
    rw [wpIn_wide]
    refine wp_only ?_
    refine wp_region_held_drew (S := fun W' => (W'.cell? ⟨Z + 2, 0, none⟩ = some (.int .i64 (NN : Int)) ∧ W'.cell? ⟨Z, 0, none⟩ = some (.slice ad NN cap) ∧ W'.cell? ⟨Z, 1, none⟩ = some (.int .i64 mostd) ∧ W'.cell? ⟨Z, 2, none⟩ = some (.bool over))) (by kernel_rfl) (HS.out _ (Below.refl W9.heap.size W9).drew) (fun hHeld => ?_)
    refine wpAnyH_step (i := 0) (d := some 55) (v := ?_) rfl rfl (by kernel_rfl) (by kernel_rfl) (by kernel_rfl) (fun _ _ _ h => h) (Or.inl ⟨by rfl, ?_⟩) (by assumption) ?_
    rotate_left
    · intro w hSw; (try dsimp only at hSw); go_simp; (try with_reducible rfl)
    try simp only [Act.put, List.setIfInBounds_toArray, List.set_cons_zero, List.set_cons_succ]
    refine wpAnyH_step (i := 1) (d := some 56) (v := ?_) rfl rfl (by kernel_rfl) (by kernel_rfl) (by kernel_rfl) (fun _ _ _ h => h) (Or.inl ⟨by rfl, ?_⟩) (by assumption) ?_
    rotate_left
    · intro w hSw; (try dsimp only at hSw); go_simp; (try with_reducible rfl)
    try simp only [Act.put, List.setIfInBounds_toArray, List.set_cons_zero, List.set_cons_succ]
    refine wpAnyH_step (i := 2) (d := some 57) (v := ?_) rfl rfl (by kernel_rfl) (by kernel_rfl) (by kernel_rfl) (fun _ _ _ h => h) (Or.inl ⟨by rfl, ?_⟩) (by assumption) ?_
    rotate_left
    · intro w hSw; (try dsimp only at hSw); go_simp; (try with_reducible rfl)
    try simp only [Act.put, List.setIfInBounds_toArray, List.set_cons_zero, List.set_cons_succ]
    refine wpAnyH_step (i := 3) (d := some 58) (v := ?_) rfl rfl (by kernel_rfl) (by kernel_rfl) (by kernel_rfl) (fun _ _ _ h => h) (Or.inl ⟨by rfl, ?_⟩) (by assumption) ?_
    rotate_left
    · intro w hSw; (try dsimp only at hSw); go_simp; (try with_reducible rfl)
    try simp only [Act.put, List.setIfInBounds_toArray, List.set_cons_zero, List.set_cons_succ]
    refine wpAnyH_step (i := 4) (d := some 59) (v := ?_) rfl rfl (by kernel_rfl) (by kernel_rfl) (by kernel_rfl) (fun _ _ _ h => h) (Or.inl ⟨by rfl, ?_⟩) (by assumption) ?_
    rotate_left
    · intro w hSw; (try dsimp only at hSw); go_simp; (try with_reducible rfl)
    try simp only [Act.put, List.setIfInBounds_toArray, List.set_cons_zero, List.set_cons_succ]
    refine wpAnyH_step (i := 5) (d := some 60) (v := ?_) rfl rfl (by kernel_rfl) (by kernel_rfl) (by kernel_rfl) (fun _ _ _ h => h) (Or.inl ⟨by rfl, ?_⟩) (by assumption) ?_
    rotate_left
    · intro w hSw; (try dsimp only at hSw); go_simp; (try with_reducible rfl)
    try simp only [Act.put, List.setIfInBounds_toArray, List.set_cons_zero, List.set_cons_succ]
    refine wpAnyH_step (i := 6) (d := some 61) (v := ?_) rfl rfl (by kernel_rfl) (by kernel_rfl) (by kernel_rfl) (fun _ _ _ h => h) (Or.inl ⟨by rfl, ?_⟩) (by assumption) ?_
    rotate_left
    · intro w hSw; (try dsimp only at hSw); go_simp; (try with_reducible rfl)
    try simp only [Act.put, List.setIfInBounds_toArray, List.set_cons_zero, List.set_cons_succ]
    refine wpAnyH_step (i := 8) (d := some 63) (v := ?_) rfl rfl (by kernel_rfl) (by kernel_rfl) (by kernel_rfl) (fun _ _ _ h => h) (Or.inl ⟨by rfl, ?_⟩) (by assumption) ?_
    rotate_left
    · intro w hSw; (try dsimp only at hSw); go_simp; (try with_reducible rfl)
    try simp only [Act.put, List.setIfInBounds_toArray, List.set_cons_zero, List.set_cons_succ]
    refine wpAnyH_ready (rs := [7]) (by kernel_rfl) (by simp) ?_
    refine AllReadyH.cons rfl (fun K hK => ?_) AllReadyH.nil
    go_simp
    refine (used_any W9.drew base p b N most m over (HMo9.out.later (Below.refl _ _).drew)).mono ?_
    rintro r wu ⟨rfl, hwu⟩
    rw [hwu]
    clear hwu
    (try go_wp2_with fail)
    refine hK.out _ _ ?_ (fun hHeld => ?_)
    · exact HS.out _ (Below.refl _ _).drew
    clear hK K
    try simp only [Act.put, List.setIfInBounds_toArray, List.set_cons_zero, List.set_cons_succ]
    refine wpAnyH_ready (rs := [9]) (by kernel_rfl) (by simp) ?_
    refine AllReadyH.cons rfl (fun K hK => ?_) AllReadyH.nil
    go_simp
    have h37 := usedD_any W9.drew base2 _ (ents m) mostd over (HO9.out.call (Below.refl _ _).drew) HUs.out HLe.out
    rw [usedS_ents] at h37
    refine h37.mono ?_
    clear h37
    rintro r w3 ⟨rfl, hb3⟩
    have Hb3 := Lib.hid (show Below W9.heap.size W9 w3 from (Below.refl W9.heap.size W9).drew.trans hb3)
    have HMo3 := Lib.hid (HMo9.out.later Hb3.out)
    clear hb3
    (try go_wp2_with fail)
    refine hK.out _ _ ?_ (fun hHeld => ?_)
    · exact HS.out _ Hb3.out
    clear hK K
    try simp only [Act.put, List.setIfInBounds_toArray, List.set_cons_zero, List.set_cons_succ]
    refine wpAnyH_step (i := 10) (d := some 65) (v := ?_) rfl rfl (by kernel_rfl) (by kernel_rfl) (by kernel_rfl) (fun _ _ _ h => h) (Or.inl ⟨by rfl, ?_⟩) (by assumption) ?_
    rotate_left
    · intro w hSw; (try dsimp only at hSw); go_simp; (try with_reducible rfl)
    try simp only [Act.put, List.setIfInBounds_toArray, List.set_cons_zero, List.set_cons_succ]
    refine wpAnyH_step (i := 11) (d := some 66) (v := ?_) rfl rfl (by kernel_rfl) (by kernel_rfl) (by kernel_rfl) (fun _ _ _ h => h) (Or.inl ⟨by rfl, ?_⟩) (by assumption) ?_
    rotate_left
    · intro w hSw; (try dsimp only at hSw); go_simp; (try with_reducible rfl)
    try simp only [Act.put, List.setIfInBounds_toArray, List.set_cons_zero, List.set_cons_succ]
    refine wpAnyH_step (i := 12) (d := some 67) (v := ?_) rfl rfl (by kernel_rfl) (by kernel_rfl) (by kernel_rfl) (fun _ _ _ h => h) (Or.inl ⟨by rfl, ?_⟩) (by assumption) ?_
    rotate_left
    · intro w hSw; (try dsimp only at hSw); go_simp; (try with_reducible rfl)
    try simp only [Act.put, List.setIfInBounds_toArray, List.set_cons_zero, List.set_cons_succ]
    refine wpAnyH_step (i := 13) (d := some 68) (v := ?_) rfl rfl (by kernel_rfl) (by kernel_rfl) (by kernel_rfl) (fun _ _ _ h => h) (Or.inl ⟨by rfl, ?_⟩) (by assumption) ?_
    rotate_left
    · intro w hSw; (try dsimp only at hSw); go_simp; (try with_reducible rfl)
    try simp only [Act.put, List.setIfInBounds_toArray, List.set_cons_zero, List.set_cons_succ]
    refine wpAnyH_step (i := 15) (d := some 70) (v := ?_) rfl rfl (by kernel_rfl) (by kernel_rfl) (by kernel_rfl) (fun _ _ _ h => h) (Or.inl ⟨by rfl, ?_⟩) (by assumption) ?_
    rotate_left
    · intro w hSw; (try dsimp only at hSw); go_simp; (try with_reducible rfl)
    try simp only [Act.put, List.setIfInBounds_toArray, List.set_cons_zero, List.set_cons_succ]
    refine wpAnyH_step (i := 16) (d := some 71) (v := ?_) rfl rfl (by kernel_rfl) (by kernel_rfl) (by kernel_rfl) (fun _ _ _ h => h) (Or.inl ⟨by rfl, ?_⟩) (by assumption) ?_
    rotate_left
    · intro w hSw; (try dsimp only at hSw); go_simp; (try with_reducible rfl)
    try simp only [Act.put, List.setIfInBounds_toArray, List.set_cons_zero, List.set_cons_succ]
    refine wpAnyH_ready (rs := [14]) (by kernel_rfl) (by simp) ?_
    refine AllReadyH.cons rfl (fun K hK => ?_) AllReadyH.nil
    go_simp
    refine (over_any w3 base p b N most m over HMo3.out).mono ?_
    rintro r wu ⟨rfl, hwu⟩
    rw [hwu]
    clear hwu
    (try go_wp2_with fail)
    refine hK.out _ _ ?_ (fun hHeld => ?_)
    · exact HS.out _ Hb3.out
    clear hK K
    try simp only [Act.put, List.setIfInBounds_toArray, List.set_cons_zero, List.set_cons_succ]
    refine wpAnyH_step (i := 17) (d := some 72) (v := ?_) rfl rfl (by kernel_rfl) (by kernel_rfl) (by kernel_rfl) (fun _ _ _ h => h) (Or.inl ⟨by rfl, ?_⟩) (by assumption) ?_
    rotate_left
    · intro w hSw; (try dsimp only at hSw); go_simp; (try with_reducible rfl)
    try simp only [Act.put, List.setIfInBounds_toArray, List.set_cons_zero, List.set_cons_succ]
    refine wpAnyH_step (i := 18) (d := some 73) (v := ?_) rfl rfl (by kernel_rfl) (by kernel_rfl) (by kernel_rfl) (fun _ _ _ h => h) (Or.inl ⟨by rfl, ?_⟩) (by assumption) ?_
    rotate_left
    · intro w hSw; (try dsimp only at hSw); go_simp; (try with_reducible rfl)
    try simp only [Act.put, List.setIfInBounds_toArray, List.set_cons_zero, List.set_cons_succ]
    refine wpAnyH_ready (rs := [19]) (by kernel_rfl) (by simp) ?_
    refine AllReadyH.cons rfl (fun K hK => ?_) AllReadyH.nil
    obtain ⟨r0, rf, HEn⟩ := HFi.out w3 Hb3.out
    go_simp
    (try go_wp2_with fail)
    refine hK.out _ _ ?_ (fun hHeld => ?_)
    · exact HS2.out w3 Hb3.out
    clear hK K
    try simp only [Act.put, List.setIfInBounds_toArray, List.set_cons_zero, List.set_cons_succ]
    refine wpAnyH_done (by kernel_rfl) ?_ _
    clear hHeld
    simp only [OnlyNormal]
    gi_wp2_with fail
    have e2 := HEn.out.1
    have g2 := grownBy_putObj' (w3.setCell ⟨Z + 1, 0, none⟩ (.bool true)) D (.deferred none)
    have z2 := cell_kept HEn.out.2.1 g2 (fun r e => by cases e; exact ⟨_, e2, rfl⟩)
    refine ⟨by simp, .inl ⟨_, _, rfl, run_takeDeferred e2, ?_⟩⟩
    refine ⟨.bool true, ?_, rfl, HEn.out.2.2.grown g2 HEn.out.2.2.size (fun k e => by cases e; exact HDZ.out)⟩
    simp [results, Tryd.results25, go_sem, z2]
end Go.Proofs.YtnfpfpppnfighaaDoor
