/- Set: what it answers, where nothing is told. -/
import Derived.Test.YtkenihkfjepdfaaM4
namespace Go.Proofs.Ytkenihkfjepdfaa
open Go.RowKit Go.Maps
set_option linter.unusedVariables false
set_option linter.unusedSimpArgs false
set_option maxRecDepth 100000
/-- As w was, but for blocks p and b. -/
structure But2 (p b : Nat) (w W : World) : Prop where
  os : W.os = w.os
  tape : W.tape = w.tape
  output : W.output = w.output
  size : w.heap.size ≤ W.heap.size
  block : ∀ k, k < w.heap.size → k ≠ p → k ≠ b → W.heap[k]? = w.heap[k]?
theorem But2.of {p b : Nat} {w W : World} (h : Below w.heap.size w W) : But2 p b w W := ⟨h.os, h.tape, h.output, h.size, fun k hk _ _ => h.block k hk⟩
theorem But2.below {p b : Nat} {w W W' : World} (h : But2 p b w W) (k : Below W.heap.size W W') : But2 p b w W' :=
  ⟨k.os.trans h.os, k.tape.trans h.tape, k.output.trans h.output, Nat.le_trans h.size k.size, fun q h1 h2 h3 => (k.block q (by have := h.size; omega)).trans (h.block q h1 h2 h3)⟩
theorem But2.grown {p b : Nat} {w W W' : World} (h : But2 p b w W) (k : W.grownBy W' (some b)) : But2 p b w W' :=
  ⟨k.os.trans h.os, k.tape.trans h.tape, k.output.trans h.output, Nat.le_trans h.size k.size, fun q h1 h2 h3 => (k.block q (by have := h.size; omega) (fun e => h3 (by cases e; rfl))).trans (h.block q h1 h2 h3)⟩
theorem But2.set {p b : Nat} {w W : World} (h : But2 p b w W) (o : Nat) (v : Value) : But2 p b w (W.setCell ⟨p, o, none⟩ v) :=
  ⟨h.os, h.tape, h.output, by simpa [World.setCell] using h.size, fun q h1 h2 h3 => (Below.heap_setCell _ _ _ _ (by simpa using h2)).trans (h.block q h1 h2 h3)⟩
theorem But2.base {p b n : Nat} {w W : World} (h : But2 p b w W) (h0 : n ≤ w.heap.size) (h1 : n ≤ p) (h2 : n ≤ b) : Below n w W := ⟨h.os, h.tape, h.output, h.size, fun k hk => h.block k (by omega) (by omega) (by omega)⟩
theorem But2.cell {p b : Nat} {w W : World} (h : But2 p b w W) {q o : Nat} (h1 : q < w.heap.size) (h2 : q ≠ p) (h3 : q ≠ b) : W.cell? ⟨q, o, none⟩ = w.cell? ⟨q, o, none⟩ := World.cell?_of_block (h.block q h1 h2 h3)
abbrev Bare (W : World) (b : Nat) : Prop := W.ownsMap Try.prog 46 (plainElem (H := Unit) Try.prog 9) b 0 (.map [])
theorem Bare.kept {W W' : World} {b : Nat} (h : Bare W b) (hb : W'.heap[b]? = W.heap[b]?) : Bare W' b := by
  obtain ⟨es, clock, hh, r⟩ := h
  exact ⟨es, clock, hb.trans hh, r⟩
theorem Bare.is {W : World} {b : Nat} (h : Bare W b) : MapIs W b none := h.mono (Nat.zero_le _)
theorem MapIs.ne {W : World} {p b : Nat} {o : Told} {off : Nat} {v : Value} (h : MapIs W b o) (hc : W.cell? ⟨p, off, none⟩ = some v) : p ≠ b := by
  rintro rfl
  obtain ⟨es, clock, hh, r⟩ := h
  simp [World.cell?, hh] at hc
theorem MapIs.lt' {W : World} {b : Nat} {o : Told} (h : MapIs W b o) : b < W.heap.size := h.lt
theorem MObj.put {W : World} {p b : Nat} {o : Told} {x : Value} (hne : p ≠ b) (c0 : W.cell? ⟨p, 0, none⟩ = some (.map (some b))) (c1 : W.cell? ⟨p, 1, none⟩ = some (.int .i64 4096)) (c2 : W.cell? ⟨p, 2, none⟩ = some x) (f2 : W.frozen? ⟨p, 2, none⟩ = false) (m : MapIs W b o) (u : Int) : MObj (W.setCell ⟨p, 2, none⟩ (.int .i64 u)) p b u o :=
  ⟨(World.cell?_setCell_other _ _ _ _ (by simp)).trans c0, (World.cell?_setCell_other _ _ _ _ (by simp)).trans c1, World.cell?_setCell_same' _ _ _ (by rw [c2]; rfl), by simp [go_sem, f2], m.kept (Below.heap_setCell _ _ _ _ (by simpa using Ne.symm hne))⟩
theorem grown_cell {W W3 : World} {b q o : Nat} {v : Value} (hg : W.grownBy W3 (some b)) (hq : q ≠ b) (h : W.cell? ⟨q, o, none⟩ = some v) : W3.cell? ⟨q, o, none⟩ = some v :=
  (World.cell?_of_block (hg.block q (World.block_lt_of_cell? W ⟨q, o, none⟩ h) (fun e => hq (by cases e; rfl)))).trans h
theorem grown_frozen {W W3 : World} {b q o : Nat} (hg : W.grownBy W3 (some b)) (hq : q ≠ b) (hlt : q < W.heap.size) (h : W.frozen? ⟨q, o, none⟩ = false) : W3.frozen? ⟨q, o, none⟩ = false :=
  (World.frozen?_of_block (hg.block q hlt (fun e => hq (by cases e; rfl)))).trans h
/-- What Set tells. -/
def setTo (e : Bool) (n : Nat) (s : ByteArray) : Told := if (e || decide (0 < n)) = true ∧ ¬ s.size = 0 then some ((e, n), s) else none
set_option maxHeartbeats 1000000 in
theorem set_any (w : World) (p b : Nat) (h : MObj w p b 0 none) (h0 : Bare w b) (e : Bool) (n : Nat) (hn : n < 256) (s : ByteArray) (hs : s.size ≤ 300) :
    Calls Try.prog 17 #[.pointer (some ⟨p, 0, none⟩), codeV e n, .string s] w fun r w' => (∃ v, r = .returned v) ∧ (∃ u, MObj w' p b u (setTo e n s)) ∧ But2 p b w w' := by
  have HM := Lib.hid (may_any e n hn)
  unfold Fn at HM
  have HCo := Lib.hid (fun (W : World) (hW : MObj W p b 0 none) => cost_none W p b 0 hW e n hn)
  have hne : p ≠ b := h.m.ne h.c0
  have hB : Below w.heap.size w (w.alloc (.cells #[.bool e, .int .i64 (n : Int)] 46)) := bel_alloc (Below.refl _ _) _
  have Hh := Lib.hid h
  have H0 := Lib.hid h0
  have Hn := Lib.hid hne
  clear h h0 hne
  go_enter Try.func17, Try.ntmps17
  go_wp2_with fail
  refine (HM.out _).mono ?_
  rintro r w1 ⟨rfl, hb1⟩
  have B1 := bel_call hB hb1
  have k0 := hb1.cell (p := ⟨w.heap.size, 0, none⟩) (by simp)
  have k1 := hb1.cell (p := ⟨w.heap.size, 1, none⟩) (by simp)
  simp [go_sem] at k0 k1
  have hz1 : w.heap.size < w1.heap.size := by have := hb1.size; simp at this; omega
  clear hb1
  by_cases hm : (e || decide (0 < n)) = true
  · rw [hm]
    -- what stands in every world that is as w1 was
    have KB := Lib.hid (show ∀ W, Below w1.heap.size w1 W → ((W.cell? ⟨w.heap.size, 0, none⟩ = some (.bool e) ∧ W.cell? ⟨w.heap.size, 1, none⟩ = some (.int .i64 (n : Int)) ∧ W.cell? ⟨p, 0, none⟩ = some (.map (some b)) ∧ W.cell? ⟨p, 1, none⟩ = some (.int .i64 4096) ∧ W.cell? ⟨p, 2, none⟩ = some (.int .i64 0) ∧ W.frozen? ⟨p, 2, none⟩ = false) ∧ MObj W p b 0 none ∧ Bare W b ∧ Below w1.heap.size w1 W) from fun W hW => by
      have hm' := Hh.out.later (bel_call B1 hW)
      exact ⟨⟨(hW.cell (p := ⟨w.heap.size, 0, none⟩) hz1).trans k0, (hW.cell (p := ⟨w.heap.size, 1, none⟩) hz1).trans k1, hm'.c0, hm'.c1, hm'.c2, hm'.f2⟩, hm', H0.out.kept ((bel_call B1 hW).block b Hh.out.m.lt), hW⟩)
    clear k0 k1
    go_wp2_with fail
    refine wp_region_held_drew (S := fun W => (W.cell? ⟨w.heap.size, 0, none⟩ = some (.bool e) ∧ W.cell? ⟨w.heap.size, 1, none⟩ = some (.int .i64 (n : Int)) ∧ W.cell? ⟨p, 0, none⟩ = some (.map (some b)) ∧ W.cell? ⟨p, 1, none⟩ = some (.int .i64 4096) ∧ W.cell? ⟨p, 2, none⟩ = some (.int .i64 0) ∧ W.frozen? ⟨p, 2, none⟩ = false) ∧ MObj W p b 0 none ∧ Bare W b ∧ Below w1.heap.size w1 W) (by kernel_rfl) (KB.out _ (Below.refl _ _).drew) (fun hHeld => ?_)
    refine wpAnyH_step (i := 0) (d := some 15) (v := ?_) rfl rfl (by kernel_rfl) (by kernel_rfl) (by kernel_rfl) (fun _ _ _ h => h) (Or.inl ⟨by rfl, ?_⟩) (by assumption) ?_
    rotate_left
    · intro w hSw; (try dsimp only at hSw); go_simp; (try with_reducible rfl)
    try simp only [Act.put, List.setIfInBounds_toArray, List.set_cons_zero, List.set_cons_succ]
    refine wpAnyH_step (i := 1) (d := some 16) (v := ?_) rfl rfl (by kernel_rfl) (by kernel_rfl) (by kernel_rfl) (fun _ _ _ h => h) (Or.inl ⟨by rfl, ?_⟩) (by assumption) ?_
    rotate_left
    · intro w hSw; (try dsimp only at hSw); go_simp; (try with_reducible rfl)
    try simp only [Act.put, List.setIfInBounds_toArray, List.set_cons_zero, List.set_cons_succ]
    refine wpAnyH_step (i := 2) (d := some 17) (v := ?_) rfl rfl (by kernel_rfl) (by kernel_rfl) (by kernel_rfl) (fun _ _ _ h => h) (Or.inl ⟨by rfl, ?_⟩) (by assumption) ?_
    rotate_left
    · intro w hSw; (try dsimp only at hSw); go_simp; (try with_reducible rfl)
    try simp only [Act.put, List.setIfInBounds_toArray, List.set_cons_zero, List.set_cons_succ]
    refine wpAnyH_step (i := 3) (d := some 18) (v := ?_) rfl rfl (by kernel_rfl) (by kernel_rfl) (by kernel_rfl) (fun _ _ _ h => h) (Or.inl ⟨by rfl, ?_⟩) (by assumption) ?_
    rotate_left
    · intro w hSw; (try dsimp only at hSw); go_simp; (try with_reducible rfl)
    try simp only [Act.put, List.setIfInBounds_toArray, List.set_cons_zero, List.set_cons_succ]
    refine wpAnyH_step (i := 4) (d := some 19) (v := ?_) rfl rfl (by kernel_rfl) (by kernel_rfl) (by kernel_rfl) (fun _ _ _ h => h) (Or.inl ⟨by rfl, ?_⟩) (by assumption) ?_
    rotate_left
    · intro w hSw; (try dsimp only at hSw); go_simp; (try with_reducible rfl)
    try simp only [Act.put, List.setIfInBounds_toArray, List.set_cons_zero, List.set_cons_succ]
    refine wpAnyH_step (i := 5) (d := some 20) (v := ?_) rfl rfl (by kernel_rfl) (by kernel_rfl) (by kernel_rfl) (fun _ _ _ h => h) (Or.inl ⟨by rfl, ?_⟩) (by assumption) ?_
    rotate_left
    · intro w hSw; (try dsimp only at hSw); go_simp; (try with_reducible rfl)
    try simp only [Act.put, List.setIfInBounds_toArray, List.set_cons_zero, List.set_cons_succ]
    refine wpAnyH_ready (rs := [6]) (by kernel_rfl) (by simp) ?_
    refine AllReadyH.cons rfl (fun K hK => ?_) AllReadyH.nil
    go_simp
    refine (HCo.out _ hHeld.2.1).mono ?_
    rintro r w2 ⟨rfl, hb2⟩
    (try go_wp2_with fail)
    refine hK.out _ _ ?_ (fun hHeld => ?_)
    · exact KB.out _ (bel_call hHeld.2.2.2 hb2)
    clear hK K
    try simp only [Act.put, List.setIfInBounds_toArray, List.set_cons_zero, List.set_cons_succ]
    refine wpAnyH_step (i := 7) (d := some 22) (v := ?_) rfl rfl (by kernel_rfl) (by kernel_rfl) (by kernel_rfl) (fun _ _ _ h => h) (Or.inl ⟨by rfl, ?_⟩) (by assumption) ?_
    rotate_left
    · intro w hSw; (try dsimp only at hSw); go_simp; (try with_reducible rfl)
    try simp only [Act.put, List.setIfInBounds_toArray, List.set_cons_zero, List.set_cons_succ]
    refine wpAnyH_step (i := 8) (d := some 7) (v := ?_) rfl rfl (by kernel_rfl) (by kernel_rfl) (by kernel_rfl) (fun _ _ _ h => h) (Or.inl ⟨by rfl, ?_⟩) (by assumption) ?_
    rotate_left
    · intro w hSw; (try dsimp only at hSw); go_simp; (try with_reducible rfl)
    try simp only [Act.put, List.setIfInBounds_toArray, List.set_cons_zero, List.set_cons_succ]
    refine wpAnyH_done (by kernel_rfl) ?_ _
    have b2 := hHeld.2.2.2
    obtain ⟨⟨c0, c1, c2, c3, c4, c5⟩, hmo, hba, -⟩ := hHeld
    have Hmo := Lib.hid hmo
    have Hba := Lib.hid hba
    have Hb2 := Lib.hid b2
    have BX := Lib.hid (show But2 p b w w2 from But2.of (bel_call B1 b2))
    clear hmo hba b2 KB
    by_cases hs0 : s.size = 0
    · have hse : s = { data := #[] } := by
        cases s
        next d => simp [ByteArray.size] at hs0; simp [hs0]
      have hto : setTo e n s = none := by unfold setTo; rw [if_neg (by simp [hs0])]
      subst hse
      have hst := fun ty => MapIs.strike (W := w2.drew) (Hba.out.kept rfl) e n hn ty
      obtain ⟨W3, hrun, hba3, hg3⟩ := hst 0
      clear hst
      have hw0 : IntKind.i64.wrap (0 : Int) = 0 := rfl
      go_wp2_with fail
      have hwb : w.heap.size ≠ b := fun e2 => by have := Hh.out.m.lt; omega
      have hpb := Hn.out
      have hpl : p < w2.heap.size := Hmo.out.lt
      have g0 := grown_cell hg3 hwb (show w2.drew.cell? ⟨w.heap.size, 0, none⟩ = _ from c0)
      have g1 := grown_cell hg3 hwb (show w2.drew.cell? ⟨w.heap.size, 1, none⟩ = _ from c1)
      have g2 := grown_cell hg3 hpb (show w2.drew.cell? ⟨p, 0, none⟩ = _ from c2)
      have g3 := grown_cell hg3 hpb (show w2.drew.cell? ⟨p, 1, none⟩ = _ from c3)
      have g4 := grown_cell hg3 hpb (show w2.drew.cell? ⟨p, 2, none⟩ = _ from c4)
      have g5 := grown_frozen hg3 hpb (show p < w2.drew.heap.size from hpl) (show w2.drew.frozen? ⟨p, 2, none⟩ = _ from c5)
      have B3 := Lib.hid (But2.grown (show But2 p b w w2.drew from BX.out.below (Below.refl _ _).drew) hg3)
      clear hpl hwb hg3
      refine wp_region_held_drew (S := fun W => (W.cell? ⟨w.heap.size, 0, none⟩ = some (.bool e) ∧ W.cell? ⟨w.heap.size, 1, none⟩ = some (.int .i64 (n : Int)) ∧ W.cell? ⟨p, 0, none⟩ = some (.map (some b)))) (by kernel_rfl) ⟨c0, c1, c2⟩ (fun hHeld => ?_)
      refine wpAnyH_step (i := 0) (d := some 25) (v := ?_) rfl rfl (by kernel_rfl) (by kernel_rfl) (by kernel_rfl) (fun _ _ _ h => h) (Or.inl ⟨by rfl, ?_⟩) (by assumption) ?_
      rotate_left
      · intro w hSw; (try dsimp only at hSw); go_simp; (try with_reducible rfl)
      try simp only [Act.put, List.setIfInBounds_toArray, List.set_cons_zero, List.set_cons_succ]
      refine wpAnyH_step (i := 1) (d := some 26) (v := ?_) rfl rfl (by kernel_rfl) (by kernel_rfl) (by kernel_rfl) (fun _ _ _ h => h) (Or.inl ⟨by rfl, ?_⟩) (by assumption) ?_
      rotate_left
      · intro w hSw; (try dsimp only at hSw); go_simp; (try with_reducible rfl)
      try simp only [Act.put, List.setIfInBounds_toArray, List.set_cons_zero, List.set_cons_succ]
      refine wpAnyH_step (i := 2) (d := some 27) (v := ?_) rfl rfl (by kernel_rfl) (by kernel_rfl) (by kernel_rfl) (fun _ _ _ h => h) (Or.inl ⟨by rfl, ?_⟩) (by assumption) ?_
      rotate_left
      · intro w hSw; (try dsimp only at hSw); go_simp; (try with_reducible rfl)
      try simp only [Act.put, List.setIfInBounds_toArray, List.set_cons_zero, List.set_cons_succ]
      refine wpAnyH_step (i := 3) (d := some 28) (v := ?_) rfl rfl (by kernel_rfl) (by kernel_rfl) (by kernel_rfl) (fun _ _ _ h => h) (Or.inl ⟨by rfl, ?_⟩) (by assumption) ?_
      rotate_left
      · intro w hSw; (try dsimp only at hSw); go_simp; (try with_reducible rfl)
      try simp only [Act.put, List.setIfInBounds_toArray, List.set_cons_zero, List.set_cons_succ]
      refine wpAnyH_step (i := 4) (d := some 29) (v := ?_) rfl rfl (by kernel_rfl) (by kernel_rfl) (by kernel_rfl) (fun _ _ _ h => h) (Or.inl ⟨by rfl, ?_⟩) (by assumption) ?_
      rotate_left
      · intro w hSw; (try dsimp only at hSw); go_simp; (try with_reducible rfl)
      try simp only [Act.put, List.setIfInBounds_toArray, List.set_cons_zero, List.set_cons_succ]
      refine wpAnyH_ready (rs := [5]) (by kernel_rfl) (by simp) ?_
      refine AllReadyH.cons rfl (fun K hK => ?_) AllReadyH.nil
      go_simp
      (try go_wp2_with fail)
      refine hK.out _ _ ?_ (fun hHeld => ?_)
      · exact ⟨g0, g1, g2⟩
      clear hK K
      try simp only [Act.put, List.setIfInBounds_toArray, List.set_cons_zero, List.set_cons_succ]
      refine wpAnyH_done (by kernel_rfl) ?_ _
      clear hHeld
      go_wp2_with fail
      go_ret
      exact ⟨⟨_, rfl⟩, ⟨_, by rw [hto]; exact MObj.put Hn.out g2 g3 g4 g5 (Bare.is hba3) _⟩, B3.out.set _ _⟩
    · have hto : setTo e n s = some ((e, n), s) := by unfold setTo; rw [if_pos ⟨hm, hs0⟩]
      have Hto := Lib.hid hto
      have hst := MapIs.tell (W := w2.drew) (Hba.out.kept rfl) e n hn s (by unfold maxLen; omega)
      obtain ⟨W3, hrun, hm3, hg3⟩ := hst
      have hw0 : IntKind.i64.wrap (0 : Int) = 0 := rfl
      have hw3 : IntKind.i64.wrap (3 : Int) = 3 := rfl
      have hw4 : IntKind.i64.wrap (3 + (s.size : Int)) = 3 + (s.size : Int) := IntWalk.i64_in _ (by omega)
      have hw5 : ¬ (4096 : Int) < 3 + (s.size : Int) := by omega
      have hsz1 : ¬ s.toList = [] := fun e => hs0 (by rw [ByteArray.toList_eq] at e; simp at e; simp [ByteArray.size, e])
      have hsz2 : s.toList.isEmpty = false := by simpa using hsz1
      have HS0 := Lib.hid hs0
      clear hto hs0
      go_wp2_with fail
      have hwb : w.heap.size ≠ b := fun e2 => by have := Hh.out.m.lt; omega
      have hpb := Hn.out
      have hpl : p < w2.heap.size := Hmo.out.lt
      have g0 := grown_cell hg3 hwb (show w2.drew.cell? ⟨w.heap.size, 0, none⟩ = _ from c0)
      have g1 := grown_cell hg3 hwb (show w2.drew.cell? ⟨w.heap.size, 1, none⟩ = _ from c1)
      have g2 := grown_cell hg3 hpb (show w2.drew.cell? ⟨p, 0, none⟩ = _ from c2)
      have g3 := grown_cell hg3 hpb (show w2.drew.cell? ⟨p, 1, none⟩ = _ from c3)
      have g4 := grown_cell hg3 hpb (show w2.drew.cell? ⟨p, 2, none⟩ = _ from c4)
      have g5 := grown_frozen hg3 hpb (show p < w2.drew.heap.size from hpl) (show w2.drew.frozen? ⟨p, 2, none⟩ = _ from c5)
      have B3 := Lib.hid (But2.grown (show But2 p b w w2.drew from BX.out.below (Below.refl _ _).drew) hg3)
      clear hpl hwb hg3
      refine wp_region_held_drew (S := fun W => (W.cell? ⟨w.heap.size, 0, none⟩ = some (.bool e) ∧ W.cell? ⟨w.heap.size, 1, none⟩ = some (.int .i64 (n : Int)) ∧ W.cell? ⟨p, 0, none⟩ = some (.map (some b)))) (by kernel_rfl) ⟨c0, c1, c2⟩ (fun hHeld => ?_)
      refine wpAnyH_step (i := 0) (d := some 47) (v := ?_) rfl rfl (by kernel_rfl) (by kernel_rfl) (by kernel_rfl) (fun _ _ _ h => h) (Or.inl ⟨by rfl, ?_⟩) (by assumption) ?_
      rotate_left
      · intro w hSw; (try dsimp only at hSw); go_simp; (try with_reducible rfl)
      try simp only [Act.put, List.setIfInBounds_toArray, List.set_cons_zero, List.set_cons_succ]
      refine wpAnyH_step (i := 1) (d := some 48) (v := ?_) rfl rfl (by kernel_rfl) (by kernel_rfl) (by kernel_rfl) (fun _ _ _ h => h) (Or.inl ⟨by rfl, ?_⟩) (by assumption) ?_
      rotate_left
      · intro w hSw; (try dsimp only at hSw); go_simp; (try with_reducible rfl)
      try simp only [Act.put, List.setIfInBounds_toArray, List.set_cons_zero, List.set_cons_succ]
      refine wpAnyH_step (i := 2) (d := some 49) (v := ?_) rfl rfl (by kernel_rfl) (by kernel_rfl) (by kernel_rfl) (fun _ _ _ h => h) (Or.inl ⟨by rfl, ?_⟩) (by assumption) ?_
      rotate_left
      · intro w hSw; (try dsimp only at hSw); go_simp; (try with_reducible rfl)
      try simp only [Act.put, List.setIfInBounds_toArray, List.set_cons_zero, List.set_cons_succ]
      refine wpAnyH_step (i := 3) (d := some 50) (v := ?_) rfl rfl (by kernel_rfl) (by kernel_rfl) (by kernel_rfl) (fun _ _ _ h => h) (Or.inl ⟨by rfl, ?_⟩) (by assumption) ?_
      rotate_left
      · intro w hSw; (try dsimp only at hSw); go_simp; (try with_reducible rfl)
      try simp only [Act.put, List.setIfInBounds_toArray, List.set_cons_zero, List.set_cons_succ]
      refine wpAnyH_step (i := 4) (d := some 51) (v := ?_) rfl rfl (by kernel_rfl) (by kernel_rfl) (by kernel_rfl) (fun _ _ _ h => h) (Or.inl ⟨by rfl, ?_⟩) (by assumption) ?_
      rotate_left
      · intro w hSw; (try dsimp only at hSw); go_simp; (try with_reducible rfl)
      try simp only [Act.put, List.setIfInBounds_toArray, List.set_cons_zero, List.set_cons_succ]
      refine wpAnyH_step (i := 5) (d := some 52) (v := ?_) rfl rfl (by kernel_rfl) (by kernel_rfl) (by kernel_rfl) (fun _ _ _ h => h) (Or.inl ⟨by rfl, ?_⟩) (by assumption) ?_
      rotate_left
      · intro w hSw; (try dsimp only at hSw); go_simp; (try with_reducible rfl)
      try simp only [Act.put, List.setIfInBounds_toArray, List.set_cons_zero, List.set_cons_succ]
      refine wpAnyH_ready (rs := [6]) (by kernel_rfl) (by simp) ?_
      refine AllReadyH.cons rfl (fun K hK => ?_) AllReadyH.nil
      go_simp
      (try go_wp2_with fail)
      refine hK.out _ _ ?_ (fun hHeld => ?_)
      · exact ⟨g0, g1, g2⟩
      clear hK K
      try simp only [Act.put, List.setIfInBounds_toArray, List.set_cons_zero, List.set_cons_succ]
      refine wpAnyH_done (by kernel_rfl) ?_ _
      clear hHeld
      go_wp2_with fail
      go_ret
      exact ⟨⟨_, rfl⟩, ⟨_, by rw [Hto.out]; exact MObj.put Hn.out g2 g3 g4 g5 hm3 _⟩, B3.out.set _ _⟩
  · have hm' : (e || decide (0 < n)) = false := by simpa using hm
    rw [hm']
    have hto : setTo e n s = none := by unfold setTo; rw [if_neg (by rw [hm']; simp)]
    go_wp2_with fail
    go_ret
    exact ⟨⟨_, rfl⟩, ⟨0, by rw [hto]; exact Hh.out.later B1⟩, But2.of B1⟩
end Go.Proofs.Ytkenihkfjepdfaa
