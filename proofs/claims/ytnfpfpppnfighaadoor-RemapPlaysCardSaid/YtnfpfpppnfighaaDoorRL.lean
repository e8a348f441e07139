/- remap: Set: what it answers, and how the map turns. -/
import Derived.Test.YtnfpfpppnfighaaDoorRK
import Derived.Deep.RegionHeld3
namespace Go.Proofs.YtnfpfpppnfighaaDoor
open Go.Shelf Go.RowKit Go.Maps
set_option linter.unusedVariables false
set_option linter.unusedSimpArgs false
set_option maxRecDepth 100000
theorem grown_cell {W W3 : World} {b q o : Nat} {v : Value} (hg : W.grownBy W3 (some b)) (hq : q ≠ b) (h : W.cell? ⟨q, o, none⟩ = some v) : W3.cell? ⟨q, o, none⟩ = some v :=
  (World.cell?_of_block (hg.block q (World.block_lt_of_cell? W ⟨q, o, none⟩ h) (fun e => hq (by cases e; rfl)))).trans h
theorem grown_frozen {W W3 : World} {b q o : Nat} (hg : W.grownBy W3 (some b)) (hq : q ≠ b) (hlt : q < W.heap.size) (h : W.frozen? ⟨q, o, none⟩ = false) : W3.frozen? ⟨q, o, none⟩ = false :=
  (World.frozen?_of_block (hg.block q hlt (fun e => hq (by cases e; rfl)))).trans h
theorem MObj.put {W W3 : World} {base p b N N' : Nat} {most : Int} {m m' : MF} {over : Bool} (h : MObj W base p b N most m over) (hg : W.grownBy W3 (some b)) (hm : MapT W3 b N' m') (u : Nat) (hu : tot m' = u) :
    MObj (W3.setCell ⟨p, 2, none⟩ (.int .i64 u)) base p b N' most m' over := by
  have hne := h.ne
  have e3 : W3.heap[p]? = some (.cells #[.map (some b), .int .i64 most, .int .i64 (tot m), .bool over] 85 (0, 0)) := (hg.block p h.lt (fun e => hne (by cases e; rfl))).trans h.blk
  have s := heap_setCell_same W3 p 2 _ _ (.int .i64 (u : Int)) e3
  exact ⟨by rw [s, hu]; rfl, hm.kept (heap_setCell_other _ _ _ _ (by show b ≠ p; exact hne)), h.lo⟩
theorem MObj.full {W : World} {base p b N : Nat} {most : Int} {m : MF} {over : Bool} (h : MObj W base p b N most m over) : MObj (W.setCell ⟨p, 3, none⟩ (.bool true)) base p b N most m true := by
  have s := heap_setCell_same W p 3 _ _ (.bool true) h.blk
  exact ⟨by rw [s]; rfl, h.map.kept (heap_setCell_other _ _ _ _ (by show b ≠ p; exact h.ne)), h.lo⟩
/-- Of what was there only the blocks p and b may have turned. -/
structure TO (p b : Nat) (w w' : World) : Prop where
  os : w'.os = w.os
  tape : w'.tape = w.tape
  output : w'.output = w.output
  size : w.heap.size ≤ w'.heap.size
  block : ∀ k, k < w.heap.size → k ≠ p → k ≠ b → w'.heap[k]? = w.heap[k]?
theorem TO.of_below {p b : Nat} {w w' : World} (h : Below w.heap.size w w') : TO p b w w' := ⟨h.os, h.tape, h.output, h.size, fun k hk _ _ => h.block k hk⟩
theorem TO.drew {p b : Nat} {w w' : World} (h : TO p b w w') : TO p b w w'.drew := ⟨h.os, h.tape, h.output, h.size, h.block⟩
theorem TO.grown {p b : Nat} {a w w' : World} (h : TO p b a w) (hg : w.grownBy w' (some b)) : TO p b a w' :=
  ⟨hg.os.trans h.os, hg.tape.trans h.tape, hg.output.trans h.output, Nat.le_trans h.size hg.size, fun k hk h1 h2 => (hg.block k (Nat.lt_of_lt_of_le hk h.size) (fun e => h2 (by cases e; rfl))).trans (h.block k hk h1 h2)⟩
theorem TO.setP {p b : Nat} {a w : World} (h : TO p b a w) (o : Nat) (u : Value) : TO p b a (w.setCell ⟨p, o, none⟩ u) :=
  ⟨h.os, h.tape, h.output, Nat.le_trans h.size (by simp [World.setCell]), fun k hk h1 h2 => (Below.heap_setCell _ _ _ _ h1).trans (h.block k hk h1 h2)⟩
theorem TO.below {p b base : Nat} {w w' : World} (h : TO p b w w') (h1 : base ≤ p) (h2 : base ≤ b) (h3 : base ≤ w.heap.size) : Below base w w' :=
  ⟨h.os, h.tape, h.output, h.size, fun k hk => h.block k (by omega) (by omega) (by omega)⟩
theorem TO.cell {p b q o : Nat} {w w' : World} {v : Value} (h : TO p b w w') (h1 : q ≠ p) (h2 : q ≠ b) (hc : w.cell? ⟨q, o, none⟩ = some v) : w'.cell? ⟨q, o, none⟩ = some v :=
  (World.cell?_of_block (h.block q (World.block_lt_of_cell? w ⟨q, o, none⟩ hc) h1 h2)).trans hc
theorem TO.frozen {p b q o : Nat} {w w' : World} (h : TO p b w w') (h1 : q ≠ p) (h2 : q ≠ b) (hq : q < w.heap.size) : w'.frozen? ⟨q, o, none⟩ = w.frozen? ⟨q, o, none⟩ :=
  World.frozen?_of_block (h.block q hq h1 h2)
theorem TO.obj {p b p' b' base N : Nat} {most : Int} {m : MF} {over : Bool} {w w' : World} (h : TO p b w w') (ho : MObj w base p' b' N most m over) (h1 : p' ≠ p) (h2 : p' ≠ b) (h3 : b' ≠ p) (h4 : b' ≠ b) : MObj w' base p' b' N most m over :=
  ⟨(h.block p' ho.lt h1 h2).trans ho.blk, ho.map.kept (h.block b' ho.map.lt h3 h4), ho.lo⟩
set_option maxHeartbeats 1000000 in
theorem set_to (w : World) (base p b N : Nat) (most : Int) (m : MF) (over : Bool) (h : MObj w base p b N most m over) (hmost : 0 ≤ most ∧ most ≤ 4096) (hu : (tot m : Int) ≤ most) (hN : N ≤ 1000000)
    (e : Bool) (n : Int) (h0 : -9223372036854775808 ≤ n) (h1 : n ≤ 9223372036854775807) (s : List UInt8) (hs : s.length ≤ 100000) :
    Calls Tryd.prog 18 #[.pointer (some ⟨p, 0, none⟩), .agg #[.bool e, .int .i64 n], .string (st s)] w fun r w' => r = .returned (.int .i64 (setE most m e n s)) ∧
      (∃ N', N' ≤ N + 1 ∧ MObj w' base p b N' most (setM most m e n s) (setO most m over e n s)) ∧ TO p b w w' := by
  have HM := Lib.hid (fun W => may_any W e n)
  have hB : Below w.heap.size w (w.alloc (.cells #[.bool e, .int .i64 n] 24)) := bel_alloc (Below.refl _ _) _
  by_cases hm : mayB e n = true
  · obtain ⟨a, rfl, ha⟩ : ∃ a : Nat, n = (a : Int) ∧ a < 256 := by
      have := hm
      unfold mayB at this
      simp only [Bool.and_eq_true, decide_eq_true_eq] at this
      exact ⟨n.toNat, by omega, by omega⟩
    have hC := tot_ge m e a ha
    have HCo := Lib.hid (fun (W : World) (hW : MObj W base p b N most m over) => cost_any W base p b N most m over hW e a h0 h1 (by omega))
    have HTp := Lib.hid (fun v => tot_put m e a ha v)
    obtain ⟨S, hS⟩ : ∃ S, st s = S := ⟨_, rfl⟩
    have HS := Lib.hid hS
    have zS : S.size = s.length := by rw [← hS, st_size]
    obtain ⟨L, hL⟩ : ∃ L, s.length = L := ⟨_, rfl⟩
    have HL := Lib.hid hL
    obtain ⟨C, hCC⟩ : ∃ C, costO (m e a) = C := ⟨_, rfl⟩
    have HCC := Lib.hid hCC
    obtain ⟨T, hT⟩ : ∃ T, tot m = T := ⟨_, rfl⟩
    have HT := Lib.hid hT
    obtain ⟨R, hR⟩ : ∃ R, T - C = R := ⟨_, rfl⟩
    have HRr := Lib.hid (show T = C + R from by rw [hCC, hT] at hC; omega)
    obtain ⟨X, hX⟩ : ∃ X, setE most m e a s = X := ⟨_, rfl⟩
    have HX := Lib.hid hX
    rw [hS, hX]
    rw [hm] at HM
    rw [hCC] at HCo HTp hC
    rw [hT] at HTp hu hC
    rw [hL] at zS hs
    have wR : IntKind.i64.wrap ((T : Int) - (C : Int)) = (R : Int) := by rw [IntWalk.i64_in _ (by omega)]; omega
    have hR4 : R ≤ 4096 := by omega
    have Hh := Lib.hid h
    have Hn := Lib.hid h.ne
    clear h hS hL hCC hT hX hC hR
    go_enter Tryd.func18, Tryd.ntmps18
    go_wp2_with fail
    refine (HM.out _).mono ?_
    rintro r w1 ⟨rfl, hb1⟩
    have B1 := bel_call hB hb1
    have k0 := hb1.cell (p := ⟨w.heap.size, 0, none⟩) (by simp)
    have k1 := hb1.cell (p := ⟨w.heap.size, 1, none⟩) (by simp)
    simp [go_sem] at k0 k1
    have hz1 : w.heap.size < w1.heap.size := by have := hb1.size; simp at this; omega
    clear hb1
    have KB := Lib.hid (show ∀ W, Below w1.heap.size w1 W → ((W.cell? ⟨w.heap.size, 0, none⟩ = some (.bool e) ∧ W.cell? ⟨w.heap.size, 1, none⟩ = some (.int .i64 (a : Int)) ∧ W.cell? ⟨p, 0, none⟩ = some (.map (some b)) ∧ W.cell? ⟨p, 1, none⟩ = some (.int .i64 most) ∧ W.cell? ⟨p, 2, none⟩ = some (.int .i64 (T : Int)) ∧ W.cell? ⟨p, 3, none⟩ = some (.bool over) ∧ W.frozen? ⟨p, 2, none⟩ = false ∧ W.frozen? ⟨p, 3, none⟩ = false) ∧ MObj W base p b N most m over ∧ Below w1.heap.size w1 W) from fun W hW => by
      have hm' := Hh.out.later (bel_call B1 hW)
      obtain ⟨⟨c0, c1, c2, c3⟩, f2, f3⟩ := hm'.cells
      rw [HT.out] at c2
      exact ⟨⟨(hW.cell (p := ⟨w.heap.size, 0, none⟩) hz1).trans k0, (hW.cell (p := ⟨w.heap.size, 1, none⟩) hz1).trans k1, c0, c1, c2, c3, f2, f3⟩, hm', hW⟩)
    clear k0 k1
    go_wp2_with fail
    refine wp_region_held_drew (S := fun W => (W.cell? ⟨w.heap.size, 0, none⟩ = some (.bool e) ∧ W.cell? ⟨w.heap.size, 1, none⟩ = some (.int .i64 (a : Int)) ∧ W.cell? ⟨p, 0, none⟩ = some (.map (some b)) ∧ W.cell? ⟨p, 1, none⟩ = some (.int .i64 most) ∧ W.cell? ⟨p, 2, none⟩ = some (.int .i64 (T : Int)) ∧ W.cell? ⟨p, 3, none⟩ = some (.bool over) ∧ W.frozen? ⟨p, 2, none⟩ = false ∧ W.frozen? ⟨p, 3, none⟩ = false) ∧ MObj W base p b N most m over ∧ Below w1.heap.size w1 W) (by kernel_rfl) (KB.out _ (Below.refl _ _).drew) (fun hHeld => ?_)
    refine wpAnyH_step (i := 0) (d := some 15) (v := ?_) rfl rfl (by kernel_rfl) (by kernel_rfl) (by kernel_rfl) (fun _ _ _ h => h) (Or.inl ⟨by rfl, ?_⟩) (by assumption) ?_
    rotate_left
    · intro w hSw; (try dsimp only at hSw); go_simp; (try with_reducible rfl)
    try simp only [Act.put, List.setIfInBounds_toArray, List.set_cons_zero, List.set_cons_succ]
    refine wpAnyH_step (i := 1) (d := some 16) (v := ?_) rfl rfl (by kernel_rfl) (by kernel_rfl) (by kernel_rfl) (fun _ _ _ h => h) (Or.inl ⟨by rfl, ?_⟩) (by assumption) ?_
    rotate_left
    · intro w hSw; (try dsimp only at hSw); go_simp; (try with_reducible rfl)
    try simp only [Act.put, List.setIfInBounds_toArray, List.set_cons_zero, List.set_cons_succ]
    refine wpAnyH_step (i := 2) (d := some 17) (v := ?_) rfl rfl (by kernel_rfl) (by kernel_rfl) (by kernel_rfl) (fun _ _ _ h => h) (Or.inl ⟨by rfl, ?_⟩) (by assumption) ?_
    rotate_left
    · intro w hSw; (try dsimp only at hSw); go_simp; (try with_reducible rfl)
    try simp only [Act.put, List.setIfInBounds_toArray, List.set_cons_zero, List.set_cons_succ]
    refine wpAnyH_step (i := 3) (d := some 18) (v := ?_) rfl rfl (by kernel_rfl) (by kernel_rfl) (by kernel_rfl) (fun _ _ _ h => h) (Or.inl ⟨by rfl, ?_⟩) (by assumption) ?_
    rotate_left
    · intro w hSw; (try dsimp only at hSw); go_simp; (try with_reducible rfl)
    try simp only [Act.put, List.setIfInBounds_toArray, List.set_cons_zero, List.set_cons_succ]
    refine wpAnyH_step (i := 4) (d := some 19) (v := ?_) rfl rfl (by kernel_rfl) (by kernel_rfl) (by kernel_rfl) (fun _ _ _ h => h) (Or.inl ⟨by rfl, ?_⟩) (by assumption) ?_
    rotate_left
    · intro w hSw; (try dsimp only at hSw); go_simp; (try with_reducible rfl)
    try simp only [Act.put, List.setIfInBounds_toArray, List.set_cons_zero, List.set_cons_succ]
    refine wpAnyH_step (i := 5) (d := some 20) (v := ?_) rfl rfl (by kernel_rfl) (by kernel_rfl) (by kernel_rfl) (fun _ _ _ h => h) (Or.inl ⟨by rfl, ?_⟩) (by assumption) ?_
    rotate_left
    · intro w hSw; (try dsimp only at hSw); go_simp; (try with_reducible rfl)
    try simp only [Act.put, List.setIfInBounds_toArray, List.set_cons_zero, List.set_cons_succ]
    refine wpAnyH_ready (rs := [6]) (by kernel_rfl) (by simp) ?_
    refine AllReadyH.cons rfl (fun K hK => ?_) AllReadyH.nil
    go_simp
    refine (HCo.out _ hHeld.2.1).mono ?_
    rintro r w2 ⟨rfl, hb2⟩
    (try go_wp2_with fail)
    refine hK.out _ _ ?_ (fun hHeld => ?_)
    · exact KB.out _ (bel_call hHeld.2.2 hb2)
    clear hK K
    try simp only [Act.put, List.setIfInBounds_toArray, List.set_cons_zero, List.set_cons_succ]
    refine wpAnyH_step (i := 7) (d := some 22) (v := ?_) rfl rfl (by kernel_rfl) (by kernel_rfl) (by kernel_rfl) (fun _ _ _ h => h) (Or.inl ⟨by rfl, ?_⟩) (by assumption) ?_
    rotate_left
    · intro w hSw; (try dsimp only at hSw); go_simp; (try with_reducible rfl)
    try simp only [Act.put, List.setIfInBounds_toArray, List.set_cons_zero, List.set_cons_succ]
    refine wpAnyH_step (i := 8) (d := some 7) (v := ?_) rfl rfl (by kernel_rfl) (by kernel_rfl) (by kernel_rfl) (fun _ _ _ h => h) (Or.inl ⟨by rfl, ?_⟩) (by assumption) ?_
    rotate_left
    · intro w hSw; (try dsimp only at hSw); go_simp; (try with_reducible rfl)
    try simp only [Act.put, List.setIfInBounds_toArray, List.set_cons_zero, List.set_cons_succ]
    refine wpAnyH_done (by kernel_rfl) ?_ _
    have b2 := hHeld.2.2
    obtain ⟨⟨c0, c1, c2, c3, c4, c5, c6, c7⟩, hmo, -⟩ := hHeld
    have Hmo := Lib.hid hmo
    have BX := Lib.hid (TO.of_below (p := p) (b := b) (bel_call B1 b2))
    clear hmo b2 KB
    by_cases hs0 : s = []
    · have hSe : S = ⟨#[]⟩ := by rw [← HS.out, hs0]; rfl
      subst hSe
      have hst := fun ty => MapT.strike (W := w2.drew) (Hmo.out.map.kept rfl) e a h0 h1 ty
      obtain ⟨W3, hrun, hm3, hg3⟩ := hst 0
      clear hst
      simp only [codeV] at hrun
      go_wp2_with fail
      have hwb : w.heap.size ≠ b := fun e2 => by have := Hh.out.map.lt; omega
      have hpb := Ne.symm Hn.out
      have hpl : p < w2.heap.size := Hmo.out.lt
      have g0 := grown_cell hg3 hwb (show w2.drew.cell? ⟨w.heap.size, 0, none⟩ = _ from c0)
      have g1 := grown_cell hg3 hwb (show w2.drew.cell? ⟨w.heap.size, 1, none⟩ = _ from c1)
      have g2 := grown_cell hg3 hpb (show w2.drew.cell? ⟨p, 0, none⟩ = _ from c2)
      have g4 := grown_cell hg3 hpb (show w2.drew.cell? ⟨p, 2, none⟩ = _ from c4)
      have g5 := grown_frozen hg3 hpb (show p < w2.drew.heap.size from hpl) (show w2.drew.frozen? ⟨p, 2, none⟩ = _ from c6)
      have B3 := Lib.hid (BX.out.drew.grown hg3)
      have HO := Lib.hid (MObj.put (Hmo.out.later (Below.refl _ _).drew) hg3 hm3 R (by have := HTp.out none; have := HRr.out; simp [costO] at *; omega))
      clear hpl hwb hg3
      refine wp_region_held_drew (S := fun W => (W.cell? ⟨w.heap.size, 0, none⟩ = some (.bool e) ∧ W.cell? ⟨w.heap.size, 1, none⟩ = some (.int .i64 (a : Int)) ∧ W.cell? ⟨p, 0, none⟩ = some (.map (some b)))) (by kernel_rfl) ⟨c0, c1, c2⟩ (fun hHeld => ?_)
      refine wpAnyH_step (i := 0) (d := some 25) (v := ?_) rfl rfl (by kernel_rfl) (by kernel_rfl) (by kernel_rfl) (fun _ _ _ h => h) (Or.inl ⟨by rfl, ?_⟩) (by assumption) ?_
      rotate_left
      · intro w hSw; (try dsimp only at hSw); go_simp; (try with_reducible rfl)
      try simp only [Act.put, List.setIfInBounds_toArray, List.set_cons_zero, List.set_cons_succ]
      refine wpAnyH_step (i := 1) (d := some 26) (v := ?_) rfl rfl (by kernel_rfl) (by kernel_rfl) (by kernel_rfl) (fun _ _ _ h => h) (Or.inl ⟨by rfl, ?_⟩) (by assumption) ?_
      rotate_left
      · intro w hSw; (try dsimp only at hSw); go_simp; (try with_reducible rfl)
      try simp only [Act.put, List.setIfInBounds_toArray, List.set_cons_zero, List.set_cons_succ]
      refine wpAnyH_step (i := 2) (d := some 27) (v := ?_) rfl rfl (by kernel_rfl) (by kernel_rfl) (by kernel_rfl) (fun _ _ _ h => h) (Or.inl ⟨by rfl, ?_⟩) (by assumption) ?_
      rotate_left
      · intro w hSw; (try dsimp only at hSw); go_simp; (try with_reducible rfl)
      try simp only [Act.put, List.setIfInBounds_toArray, List.set_cons_zero, List.set_cons_succ]
      refine wpAnyH_step (i := 3) (d := some 28) (v := ?_) rfl rfl (by kernel_rfl) (by kernel_rfl) (by kernel_rfl) (fun _ _ _ h => h) (Or.inl ⟨by rfl, ?_⟩) (by assumption) ?_
      rotate_left
      · intro w hSw; (try dsimp only at hSw); go_simp; (try with_reducible rfl)
      try simp only [Act.put, List.setIfInBounds_toArray, List.set_cons_zero, List.set_cons_succ]
      refine wpAnyH_step (i := 4) (d := some 29) (v := ?_) rfl rfl (by kernel_rfl) (by kernel_rfl) (by kernel_rfl) (fun _ _ _ h => h) (Or.inl ⟨by rfl, ?_⟩) (by assumption) ?_
      rotate_left
      · intro w hSw; (try dsimp only at hSw); go_simp; (try with_reducible rfl)
      try simp only [Act.put, List.setIfInBounds_toArray, List.set_cons_zero, List.set_cons_succ]
      refine wpAnyH_ready (rs := [5]) (by kernel_rfl) (by simp) ?_
      refine AllReadyH.cons rfl (fun K hK => ?_) AllReadyH.nil
      go_simp
      (try go_wp2_with fail)
      refine hK.out _ _ ?_ (fun hHeld => ?_)
      · exact ⟨g0, g1, g2⟩
      clear hK K
      try simp only [Act.put, List.setIfInBounds_toArray, List.set_cons_zero, List.set_cons_succ]
      refine wpAnyH_done (by kernel_rfl) ?_ _
      clear hHeld
      go_wp2_with fail
      go_ret
      exact ⟨by rw [← HX.out]; unfold setE; rw [if_pos hm, if_pos hs0] <;> rfl, ⟨N, by omega, by unfold setM setO; rw [if_pos hm, if_pos hm, if_pos hs0, if_pos hs0]; exact HO.out⟩, B3.out.setP 2 _⟩
    · have hsz1 : ¬ S.toList = [] := fun e => hs0 (by rw [← HS.out, ByteArray.toList_eq] at e; simpa [st] using e)
      have hsz2 : S.toList.isEmpty = false := by simpa using hsz1
      have v1 : IntKind.i64.wrap ((R : Int) + 3) = (R : Int) + 3 := IntWalk.i64_in _ (by omega)
      have v2 : IntKind.i64.wrap ((R : Int) + 3 + (L : Int)) = ((R + 3 + L : Nat) : Int) := by rw [IntWalk.i64_in _ (by omega)]; omega
      obtain ⟨Q, hQ⟩ : ∃ Q, R + 3 + L = Q := ⟨_, rfl⟩
      rw [hQ] at v2
      have HQ := Lib.hid hQ
      have HQe := Lib.hid (show (tot m : Int) - costO (m e a) + 3 + s.length = (Q : Int) from by rw [HT.out, HCC.out, HL.out]; have := HRr.out; have := HTp.out none; omega)
      clear hQ
      have HS0 := Lib.hid hs0
      clear hs0
      by_cases hov : most < (Q : Int)
      · have B3 := Lib.hid (BX.out.setP 3 (.bool true))
        have HO := Lib.hid Hmo.out.full
        go_wp2_with fail
        go_ret
        exact ⟨by rw [← HX.out]; unfold setE; rw [if_pos hm, if_neg HS0.out, HQe.out, if_pos hov] <;> rfl, ⟨N, by omega, by unfold setM setO; rw [if_pos hm, if_pos hm, if_neg HS0.out, if_neg HS0.out, HQe.out, if_pos hov, if_pos hov]; exact HO.out⟩, B3.out⟩
      · have hst := MapT.tell (W := w2.drew) (Hmo.out.map.kept rfl) (by unfold maxLen; omega) e a h0 h1 s (by rw [HL.out]; unfold maxLen; omega)
        rw [HS.out] at hst
        have HOv := Lib.hid hov
        obtain ⟨W3, hrun, hm3, hg3⟩ := hst
        simp only [codeV] at hrun
        go_wp2_with fail
        have hwb : w.heap.size ≠ b := fun e2 => by have := Hh.out.map.lt; omega
        have hpb := Ne.symm Hn.out
        have hpl : p < w2.heap.size := Hmo.out.lt
        have g0 := grown_cell hg3 hwb (show w2.drew.cell? ⟨w.heap.size, 0, none⟩ = _ from c0)
        have g1 := grown_cell hg3 hwb (show w2.drew.cell? ⟨w.heap.size, 1, none⟩ = _ from c1)
        have g2 := grown_cell hg3 hpb (show w2.drew.cell? ⟨p, 0, none⟩ = _ from c2)
        have g4 := grown_cell hg3 hpb (show w2.drew.cell? ⟨p, 2, none⟩ = _ from c4)
        have g5 := grown_frozen hg3 hpb (show p < w2.drew.heap.size from hpl) (show w2.drew.frozen? ⟨p, 2, none⟩ = _ from c6)
        have B3 := Lib.hid (BX.out.drew.grown hg3)
        have HO := Lib.hid (MObj.put (Hmo.out.later (Below.refl _ _).drew) hg3 hm3 Q (by have h1 := HTp.out (some s); have h2 := HRr.out; have h3 := HQ.out; have h4 := HL.out; simp only [costO] at h1; omega))
        clear hpl hwb hg3
        refine wp_region_held_drew (S := fun W => (W.cell? ⟨w.heap.size, 0, none⟩ = some (.bool e) ∧ W.cell? ⟨w.heap.size, 1, none⟩ = some (.int .i64 (a : Int)) ∧ W.cell? ⟨p, 0, none⟩ = some (.map (some b)))) (by kernel_rfl) ⟨c0, c1, c2⟩ (fun hHeld => ?_)
        refine wpAnyH_step (i := 0) (d := some 47) (v := ?_) rfl rfl (by kernel_rfl) (by kernel_rfl) (by kernel_rfl) (fun _ _ _ h => h) (Or.inl ⟨by rfl, ?_⟩) (by assumption) ?_
        rotate_left
        · intro w hSw; (try dsimp only at hSw); go_simp; (try with_reducible rfl)
        try simp only [Act.put, List.setIfInBounds_toArray, List.set_cons_zero, List.set_cons_succ]
        refine wpAnyH_step (i := 1) (d := some 48) (v := ?_) rfl rfl (by kernel_rfl) (by kernel_rfl) (by kernel_rfl) (fun _ _ _ h => h) (Or.inl ⟨by rfl, ?_⟩) (by assumption) ?_
        rotate_left
        · intro w hSw; (try dsimp only at hSw); go_simp; (try with_reducible rfl)
        try simp only [Act.put, List.setIfInBounds_toArray, List.set_cons_zero, List.set_cons_succ]
        refine wpAnyH_step (i := 2) (d := some 49) (v := ?_) rfl rfl (by kernel_rfl) (by kernel_rfl) (by kernel_rfl) (fun _ _ _ h => h) (Or.inl ⟨by rfl, ?_⟩) (by assumption) ?_
        rotate_left
        · intro w hSw; (try dsimp only at hSw); go_simp; (try with_reducible rfl)
        try simp only [Act.put, List.setIfInBounds_toArray, List.set_cons_zero, List.set_cons_succ]
        refine wpAnyH_step (i := 3) (d := some 50) (v := ?_) rfl rfl (by kernel_rfl) (by kernel_rfl) (by kernel_rfl) (fun _ _ _ h => h) (Or.inl ⟨by rfl, ?_⟩) (by assumption) ?_
        rotate_left
        · intro w hSw; (try dsimp only at hSw); go_simp; (try with_reducible rfl)
        try simp only [Act.put, List.setIfInBounds_toArray, List.set_cons_zero, List.set_cons_succ]
        refine wpAnyH_step (i := 4) (d := some 51) (v := ?_) rfl rfl (by kernel_rfl) (by kernel_rfl) (by kernel_rfl) (fun _ _ _ h => h) (Or.inl ⟨by rfl, ?_⟩) (by assumption) ?_
        rotate_left
        · intro w hSw; (try dsimp only at hSw); go_simp; (try with_reducible rfl)
        try simp only [Act.put, List.setIfInBounds_toArray, List.set_cons_zero, List.set_cons_succ]
        refine wpAnyH_step (i := 5) (d := some 52) (v := ?_) rfl rfl (by kernel_rfl) (by kernel_rfl) (by kernel_rfl) (fun _ _ _ h => h) (Or.inl ⟨by rfl, ?_⟩) (by assumption) ?_
        rotate_left
        · intro w hSw; (try dsimp only at hSw); go_simp; (try with_reducible rfl)
        try simp only [Act.put, List.setIfInBounds_toArray, List.set_cons_zero, List.set_cons_succ]
        refine wpAnyH_ready (rs := [6]) (by kernel_rfl) (by simp) ?_
        refine AllReadyH.cons rfl (fun K hK => ?_) AllReadyH.nil
        go_simp
        (try go_wp2_with fail)
        refine hK.out _ _ ?_ (fun hHeld => ?_)
        · exact ⟨g0, g1, g2⟩
        clear hK K
        try simp only [Act.put, List.setIfInBounds_toArray, List.set_cons_zero, List.set_cons_succ]
        refine wpAnyH_done (by kernel_rfl) ?_ _
        clear hHeld
        go_wp2_with fail
        go_ret
        exact ⟨by rw [← HX.out]; unfold setE; rw [if_pos hm, if_neg HS0.out, HQe.out, if_neg (Int.not_lt.2 HOv.out)] <;> rfl, ⟨N + 1, by omega, by unfold setM setO; rw [if_pos hm, if_pos hm, if_neg HS0.out, if_neg HS0.out, HQe.out, if_neg (Int.not_lt.2 HOv.out), if_neg (Int.not_lt.2 HOv.out)]; exact HO.out⟩, B3.out.setP 2 _⟩
  · have hm' : mayB e n = false := by simpa using hm
    rw [hm'] at HM
    have HO := Lib.hid h
    have HX := Lib.hid (show setE most m e n s = 1 from by unfold setE; rw [if_neg hm])
    rw [HX.out]
    clear h
    go_enter Tryd.func18, Tryd.ntmps18
    go_wp2_with fail
    refine (HM.out _).mono ?_
    rintro r w1 ⟨rfl, hb1⟩
    have B1 := bel_call hB hb1
    go_wp2_with fail
    go_ret
    exact ⟨rfl, ⟨N, by omega, by unfold setM setO; rw [if_neg hm, if_neg hm]; exact HO.out.later B1⟩, TO.of_below B1⟩
theorem set_any (w : World) (base p b N : Nat) (most : Int) (m : MF) (over : Bool) (h : MObj w base p b N most m over) (hbase : base ≤ w.heap.size) (hmost : 0 ≤ most ∧ most ≤ 4096) (hu : (tot m : Int) ≤ most) (hN : N ≤ 1000000)
    (e : Bool) (n : Int) (h0 : -9223372036854775808 ≤ n) (h1 : n ≤ 9223372036854775807) (s : List UInt8) (hs : s.length ≤ 100000) :
    Calls Tryd.prog 18 #[.pointer (some ⟨p, 0, none⟩), .agg #[.bool e, .int .i64 n], .string (st s)] w fun r w' => r = .returned (.int .i64 (setE most m e n s)) ∧
      (∃ N', N' ≤ N + 1 ∧ MObj w' base p b N' most (setM most m e n s) (setO most m over e n s)) ∧ Below base w w' :=
  (set_to w base p b N most m over h hmost hu hN e n h0 h1 s hs).mono fun r w' ⟨h1, h2, h3⟩ => ⟨h1, h2, h3.below h.lo.1 h.lo.2 hbase⟩
/-- What Set leaves. -/
theorem setM_tot {most : Int} {m : MF} (h : (tot m : Int) ≤ most) (e : Bool) (n : Int) (s : List UInt8) : (tot (setM most m e n s) : Int) ≤ most := by
  unfold setM
  by_cases hm : mayB e n = true
  · obtain ⟨a, rfl, ha⟩ : ∃ a : Nat, n = (a : Int) ∧ a < 256 := by
      have := hm
      unfold mayB at this
      simp only [Bool.and_eq_true, decide_eq_true_eq] at this
      exact ⟨n.toNat, by omega, by omega⟩
    have h1 := tot_put m e a ha none
    have h2 := tot_put m e a ha (some s)
    rw [show costO none = 0 from rfl] at h1
    rw [show costO (some s) = 3 + s.length from rfl] at h2
    rw [if_pos hm]
    by_cases hs : s = []
    · rw [if_pos hs]; omega
    · rw [if_neg hs]
      by_cases ho : most < (tot m : Int) - costO (m e a) + 3 + s.length
      · rw [if_pos ho]; exact h
      · rw [if_neg ho]; omega
  · rw [if_neg hm]; exact h
/-- No entry's text is empty. -/
def NE (m : MF) : Prop := ∀ e n, m e n ≠ some []
theorem setM_ne {most : Int} {m : MF} (h : NE m) (e : Bool) (n : Int) (s : List UInt8) : NE (setM most m e n s) := by
  intro e' n'
  unfold setM
  split
  · split
    · unfold MF.put; split
      · simp
      · exact h _ _
    · next hs =>
      split
      · exact h _ _
      · unfold MF.put; split
        · simpa using hs
        · exact h _ _
  · exact h _ _
end Go.Proofs.YtnfpfpppnfighaaDoor
