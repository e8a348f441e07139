/- Get and cost: what they answer. -/
import Derived.Test.YtkenihkfjepdfaaM3
import Derived.Deep.RegionHeld3
namespace Go.Proofs.Ytkenihkfjepdfaa
open Go.RowKit Go.Maps
set_option linter.unusedVariables false
set_option linter.unusedSimpArgs false
set_option maxRecDepth 100000
/-- A map of texts by codes, behind a pointer: p: its fields' block; b: the map's own; u: used; o: what is told. -/
structure MObj (W : World) (p b : Nat) (u : Int) (o : Told) : Prop where
  c0 : W.cell? ⟨p, 0, none⟩ = some (.map (some b))
  c1 : W.cell? ⟨p, 1, none⟩ = some (.int .i64 4096)
  c2 : W.cell? ⟨p, 2, none⟩ = some (.int .i64 u)
  f2 : W.frozen? ⟨p, 2, none⟩ = false
  m : MapIs W b o
theorem MObj.lt {W : World} {p b : Nat} {u : Int} {o : Told} (h : MObj W p b u o) : p < W.heap.size := World.block_lt_of_cell? W ⟨p, 0, none⟩ h.c0
theorem MObj.later {W W' : World} {p b : Nat} {u : Int} {o : Told} (h : MObj W p b u o) (hb : Below W.heap.size W W') : MObj W' p b u o :=
  ⟨(hb.cell (p := ⟨p, 0, none⟩) h.lt).trans h.c0, (hb.cell (p := ⟨p, 1, none⟩) h.lt).trans h.c1, (hb.cell (p := ⟨p, 2, none⟩) h.lt).trans h.c2, (hb.frozen (p := ⟨p, 2, none⟩) h.lt).trans h.f2, h.m.kept (hb.block b h.m.lt)⟩
theorem get_nil (e : Bool) (n : Nat) : Fn 29 #[.pointer none, codeV e n] (.tuple #[.string { data := #[] }, .bool false]) := by
  intro w
  go_enter Try.func29, Try.ntmps29
  go_wp2
  go_ret2
  exact ⟨rfl, bel_alloc (Below.refl _ _) _⟩
theorem get_any (w : World) (p b : Nat) (u : Int) (o : Told) (h : MObj w p b u o) (ho : toldOk o) (e : Bool) (n : Nat) (hn : n < 256) :
    Calls Try.prog 29 #[.pointer (some ⟨p, 0, none⟩), codeV e n] w fun r w' => r = .returned (.tuple #[.string (toldAt o e n).1, .bool (toldAt o e n).2]) ∧ Below w.heap.size w w' := by
  have hB : Below w.heap.size w (w.alloc (.cells #[.bool e, .int .i64 (n : Int)] 46)) := bel_alloc (Below.refl _ _) _
  have h1 := h.later hB
  have hl := h1.m.look ho e n hn
  have k0 := h1.c0
  have ks : ((w.alloc (.cells #[.bool e, .int .i64 (n : Int)] 46)).drew.cell? ⟨w.heap.size, 0, none⟩ = some (.bool e) ∧ (w.alloc (.cells #[.bool e, .int .i64 (n : Int)] 46)).drew.cell? ⟨w.heap.size, 1, none⟩ = some (.int .i64 (n : Int)) ∧ (w.alloc (.cells #[.bool e, .int .i64 (n : Int)] 46)).drew.cell? ⟨p, 0, none⟩ = some (.map (some b))) ∧ MapIs (w.alloc (.cells #[.bool e, .int .i64 (n : Int)] 46)).drew b o :=
    ⟨⟨by simp [go_sem], by simp [go_sem], k0⟩, h1.m.kept rfl⟩
  have HL := Lib.hid (fun (W : World) (hW : MapIs W b o) => hW.look ho e n hn)
  generalize (toldAt o e n).1 = S at *
  generalize (toldAt o e n).2 = q at *
  clear h h1 hl ho k0
  go_enter Try.func29, Try.ntmps29
  go_wp2_with fail
  refine wp_region_held_drew (S := fun W => (W.cell? ⟨w.heap.size, 0, none⟩ = some (.bool e) ∧ W.cell? ⟨w.heap.size, 1, none⟩ = some (.int .i64 (n : Int)) ∧ W.cell? ⟨p, 0, none⟩ = some (.map (some b))) ∧ MapIs W b o) (by kernel_rfl) ks (fun hHeld => ?_)
  refine wpAnyH_step (i := 0) (d := some 11) (v := ?_) rfl rfl (by kernel_rfl) (by kernel_rfl) (by kernel_rfl) (fun _ _ _ h => h) (Or.inl ⟨by rfl, ?_⟩) (by assumption) ?_
  rotate_left
  · intro w hSw; (try dsimp only at hSw); have hlk := HL.out w hSw.2; go_simp; (try with_reducible rfl)
  try simp only [Act.put, List.setIfInBounds_toArray, List.set_cons_zero, List.set_cons_succ]
  refine wpAnyH_step (i := 1) (d := some 12) (v := ?_) rfl rfl (by kernel_rfl) (by kernel_rfl) (by kernel_rfl) (fun _ _ _ h => h) (Or.inl ⟨by rfl, ?_⟩) (by assumption) ?_
  rotate_left
  · intro w hSw; (try dsimp only at hSw); have hlk := HL.out w hSw.2; go_simp; (try with_reducible rfl)
  try simp only [Act.put, List.setIfInBounds_toArray, List.set_cons_zero, List.set_cons_succ]
  refine wpAnyH_step (i := 2) (d := some 13) (v := ?_) rfl rfl (by kernel_rfl) (by kernel_rfl) (by kernel_rfl) (fun _ _ _ h => h) (Or.inl ⟨by rfl, ?_⟩) (by assumption) ?_
  rotate_left
  · intro w hSw; (try dsimp only at hSw); have hlk := HL.out w hSw.2; go_simp; (try with_reducible rfl)
  try simp only [Act.put, List.setIfInBounds_toArray, List.set_cons_zero, List.set_cons_succ]
  refine wpAnyH_step (i := 3) (d := some 14) (v := ?_) rfl rfl (by kernel_rfl) (by kernel_rfl) (by kernel_rfl) (fun _ _ _ h => h) (Or.inl ⟨by rfl, ?_⟩) (by assumption) ?_
  rotate_left
  · intro w hSw; (try dsimp only at hSw); have hlk := HL.out w hSw.2; go_simp; (try with_reducible rfl)
  try simp only [Act.put, List.setIfInBounds_toArray, List.set_cons_zero, List.set_cons_succ]
  refine wpAnyH_step (i := 4) (d := some 15) (v := ?_) rfl rfl (by kernel_rfl) (by kernel_rfl) (by kernel_rfl) (fun _ _ _ h => h) (Or.inl ⟨by rfl, ?_⟩) (by assumption) ?_
  rotate_left
  · intro w hSw; (try dsimp only at hSw); have hlk := HL.out w hSw.2; go_simp; (try with_reducible rfl)
  try simp only [Act.put, List.setIfInBounds_toArray, List.set_cons_zero, List.set_cons_succ]
  refine wpAnyH_step (i := 5) (d := some 16) (v := ?_) rfl rfl (by kernel_rfl) (by kernel_rfl) (by kernel_rfl) (fun _ _ _ h => h) (Or.inl ⟨by rfl, ?_⟩) (by assumption) ?_
  rotate_left
  · intro w hSw; (try dsimp only at hSw); have hlk := HL.out w hSw.2; go_simp; (try with_reducible rfl)
  try simp only [Act.put, List.setIfInBounds_toArray, List.set_cons_zero, List.set_cons_succ]
  refine wpAnyH_step (i := 6) (d := some 10) (v := ?_) rfl rfl (by kernel_rfl) (by kernel_rfl) (by kernel_rfl) (fun _ _ _ h => h) (Or.inl ⟨by rfl, ?_⟩) (by assumption) ?_
  rotate_left
  · intro w hSw; (try dsimp only at hSw); have hlk := HL.out w hSw.2; go_simp; (try with_reducible rfl)
  try simp only [Act.put, List.setIfInBounds_toArray, List.set_cons_zero, List.set_cons_succ]
  refine wpAnyH_step (i := 7) (d := some 17) (v := ?_) rfl rfl (by kernel_rfl) (by kernel_rfl) (by kernel_rfl) (fun _ _ _ h => h) (Or.inl ⟨by rfl, ?_⟩) (by assumption) ?_
  rotate_left
  · intro w hSw; (try dsimp only at hSw); have hlk := HL.out w hSw.2; go_simp; (try with_reducible rfl)
  try simp only [Act.put, List.setIfInBounds_toArray, List.set_cons_zero, List.set_cons_succ]
  refine wpAnyH_step (i := 8) (d := some 18) (v := ?_) rfl rfl (by kernel_rfl) (by kernel_rfl) (by kernel_rfl) (fun _ _ _ h => h) (Or.inl ⟨by rfl, ?_⟩) (by assumption) ?_
  rotate_left
  · intro w hSw; (try dsimp only at hSw); have hlk := HL.out w hSw.2; go_simp; (try with_reducible rfl)
  try simp only [Act.put, List.setIfInBounds_toArray, List.set_cons_zero, List.set_cons_succ]
  refine wpAnyH_step (i := 9) (d := some 6) (v := ?_) rfl rfl (by kernel_rfl) (by kernel_rfl) (by kernel_rfl) (fun _ _ _ h => h) (Or.inl ⟨by rfl, ?_⟩) (by assumption) ?_
  rotate_left
  · intro w hSw; (try dsimp only at hSw); have hlk := HL.out w hSw.2; go_simp; (try with_reducible rfl)
  try simp only [Act.put, List.setIfInBounds_toArray, List.set_cons_zero, List.set_cons_succ]
  refine wpAnyH_step (i := 10) (d := some 7) (v := ?_) rfl rfl (by kernel_rfl) (by kernel_rfl) (by kernel_rfl) (fun _ _ _ h => h) (Or.inl ⟨by rfl, ?_⟩) (by assumption) ?_
  rotate_left
  · intro w hSw; (try dsimp only at hSw); have hlk := HL.out w hSw.2; go_simp; (try with_reducible rfl)
  try simp only [Act.put, List.setIfInBounds_toArray, List.set_cons_zero, List.set_cons_succ]
  refine wpAnyH_done (by kernel_rfl) ?_ _
  clear hHeld ks
  go_wp2_with fail
  go_ret2
  exact ⟨rfl, hB.drew⟩
theorem cost_none (w : World) (p b : Nat) (u : Int) (h : MObj w p b u none) (e : Bool) (n : Nat) (hn : n < 256) :
    Calls Try.prog 28 #[.pointer (some ⟨p, 0, none⟩), codeV e n] w fun r w' => r = .returned (.int .i64 0) ∧ Below w.heap.size w w' := by
  have hB : Below w.heap.size w (w.alloc (.cells #[.bool e, .int .i64 (n : Int)] 46)) := bel_alloc (Below.refl _ _) _
  have h1 := h.later hB
  have k0 := h1.c0
  have ks : ((w.alloc (.cells #[.bool e, .int .i64 (n : Int)] 46)).drew.cell? ⟨w.heap.size, 0, none⟩ = some (.bool e) ∧ (w.alloc (.cells #[.bool e, .int .i64 (n : Int)] 46)).drew.cell? ⟨w.heap.size, 1, none⟩ = some (.int .i64 (n : Int)) ∧ (w.alloc (.cells #[.bool e, .int .i64 (n : Int)] 46)).drew.cell? ⟨p, 0, none⟩ = some (.map (some b))) ∧ MapIs (w.alloc (.cells #[.bool e, .int .i64 (n : Int)] 46)).drew b none :=
    ⟨⟨by simp [go_sem], by simp [go_sem], k0⟩, h1.m.kept rfl⟩
  have HL := Lib.hid (fun (W : World) (hW : MapIs W b none) => hW.look trivial e n hn)
  have e1 : (toldAt none e n).1 = { data := #[] } := rfl
  have e2 : (toldAt none e n).2 = false := rfl
  rw [e1, e2] at HL
  clear h h1 k0 e1 e2
  go_enter Try.func28, Try.ntmps28
  go_wp2_with fail
  refine wp_region_held_drew (S := fun W => (W.cell? ⟨w.heap.size, 0, none⟩ = some (.bool e) ∧ W.cell? ⟨w.heap.size, 1, none⟩ = some (.int .i64 (n : Int)) ∧ W.cell? ⟨p, 0, none⟩ = some (.map (some b))) ∧ MapIs W b none) (by kernel_rfl) ks (fun hHeld => ?_)
  refine wpAnyH_step (i := 0) (d := some 8) (v := ?_) rfl rfl (by kernel_rfl) (by kernel_rfl) (by kernel_rfl) (fun _ _ _ h => h) (Or.inl ⟨by rfl, ?_⟩) (by assumption) ?_
  rotate_left
  · intro w hSw; (try dsimp only at hSw); have hlk := HL.out w hSw.2; go_simp; (try with_reducible rfl)
  try simp only [Act.put, List.setIfInBounds_toArray, List.set_cons_zero, List.set_cons_succ]
  refine wpAnyH_step (i := 1) (d := some 9) (v := ?_) rfl rfl (by kernel_rfl) (by kernel_rfl) (by kernel_rfl) (fun _ _ _ h => h) (Or.inl ⟨by rfl, ?_⟩) (by assumption) ?_
  rotate_left
  · intro w hSw; (try dsimp only at hSw); have hlk := HL.out w hSw.2; go_simp; (try with_reducible rfl)
  try simp only [Act.put, List.setIfInBounds_toArray, List.set_cons_zero, List.set_cons_succ]
  refine wpAnyH_step (i := 2) (d := some 10) (v := ?_) rfl rfl (by kernel_rfl) (by kernel_rfl) (by kernel_rfl) (fun _ _ _ h => h) (Or.inl ⟨by rfl, ?_⟩) (by assumption) ?_
  rotate_left
  · intro w hSw; (try dsimp only at hSw); have hlk := HL.out w hSw.2; go_simp; (try with_reducible rfl)
  try simp only [Act.put, List.setIfInBounds_toArray, List.set_cons_zero, List.set_cons_succ]
  refine wpAnyH_step (i := 3) (d := some 11) (v := ?_) rfl rfl (by kernel_rfl) (by kernel_rfl) (by kernel_rfl) (fun _ _ _ h => h) (Or.inl ⟨by rfl, ?_⟩) (by assumption) ?_
  rotate_left
  · intro w hSw; (try dsimp only at hSw); have hlk := HL.out w hSw.2; go_simp; (try with_reducible rfl)
  try simp only [Act.put, List.setIfInBounds_toArray, List.set_cons_zero, List.set_cons_succ]
  refine wpAnyH_step (i := 4) (d := some 12) (v := ?_) rfl rfl (by kernel_rfl) (by kernel_rfl) (by kernel_rfl) (fun _ _ _ h => h) (Or.inl ⟨by rfl, ?_⟩) (by assumption) ?_
  rotate_left
  · intro w hSw; (try dsimp only at hSw); have hlk := HL.out w hSw.2; go_simp; (try with_reducible rfl)
  try simp only [Act.put, List.setIfInBounds_toArray, List.set_cons_zero, List.set_cons_succ]
  refine wpAnyH_step (i := 5) (d := some 13) (v := ?_) rfl rfl (by kernel_rfl) (by kernel_rfl) (by kernel_rfl) (fun _ _ _ h => h) (Or.inl ⟨by rfl, ?_⟩) (by assumption) ?_
  rotate_left
  · intro w hSw; (try dsimp only at hSw); have hlk := HL.out w hSw.2; go_simp; (try with_reducible rfl)
  try simp only [Act.put, List.setIfInBounds_toArray, List.set_cons_zero, List.set_cons_succ]
  refine wpAnyH_step (i := 6) (d := some 7) (v := ?_) rfl rfl (by kernel_rfl) (by kernel_rfl) (by kernel_rfl) (fun _ _ _ h => h) (Or.inl ⟨by rfl, ?_⟩) (by assumption) ?_
  rotate_left
  · intro w hSw; (try dsimp only at hSw); have hlk := HL.out w hSw.2; go_simp; (try with_reducible rfl)
  try simp only [Act.put, List.setIfInBounds_toArray, List.set_cons_zero, List.set_cons_succ]
  refine wpAnyH_step (i := 7) (d := some 14) (v := ?_) rfl rfl (by kernel_rfl) (by kernel_rfl) (by kernel_rfl) (fun _ _ _ h => h) (Or.inl ⟨by rfl, ?_⟩) (by assumption) ?_
  rotate_left
  · intro w hSw; (try dsimp only at hSw); have hlk := HL.out w hSw.2; go_simp; (try with_reducible rfl)
  try simp only [Act.put, List.setIfInBounds_toArray, List.set_cons_zero, List.set_cons_succ]
  refine wpAnyH_step (i := 8) (d := some 15) (v := ?_) rfl rfl (by kernel_rfl) (by kernel_rfl) (by kernel_rfl) (fun _ _ _ h => h) (Or.inl ⟨by rfl, ?_⟩) (by assumption) ?_
  rotate_left
  · intro w hSw; (try dsimp only at hSw); have hlk := HL.out w hSw.2; go_simp; (try with_reducible rfl)
  try simp only [Act.put, List.setIfInBounds_toArray, List.set_cons_zero, List.set_cons_succ]
  refine wpAnyH_step (i := 9) (d := some 5) (v := ?_) rfl rfl (by kernel_rfl) (by kernel_rfl) (by kernel_rfl) (fun _ _ _ h => h) (Or.inl ⟨by rfl, ?_⟩) (by assumption) ?_
  rotate_left
  · intro w hSw; (try dsimp only at hSw); have hlk := HL.out w hSw.2; go_simp; (try with_reducible rfl)
  try simp only [Act.put, List.setIfInBounds_toArray, List.set_cons_zero, List.set_cons_succ]
  refine wpAnyH_step (i := 10) (d := some 6) (v := ?_) rfl rfl (by kernel_rfl) (by kernel_rfl) (by kernel_rfl) (fun _ _ _ h => h) (Or.inl ⟨by rfl, ?_⟩) (by assumption) ?_
  rotate_left
  · intro w hSw; (try dsimp only at hSw); have hlk := HL.out w hSw.2; go_simp; (try with_reducible rfl)
  try simp only [Act.put, List.setIfInBounds_toArray, List.set_cons_zero, List.set_cons_succ]
  refine wpAnyH_done (by kernel_rfl) ?_ _
  clear hHeld ks
  go_wp2_with fail
  go_ret
  exact ⟨rfl, hB.drew⟩
end Go.Proofs.Ytkenihkfjepdfaa
