/- tabs: New, Cols, List. -/
import Derived.Test.YtpjodppcedkneaaT1
import Derived.Maps.OwnSet
import Derived.Lib.Hide
import Derived.Below
namespace Go.Proofs.Ytpjodppcedkneaa
open Go.RowKit Go.Maps Go.Sort Go.Shelf
set_option linter.unusedVariables false
set_option linter.unusedSimpArgs false
set_option maxRecDepth 100000
theorem bel_alloc {w W : World} (h : Below w.heap.size w W) (o : Obj) : Below w.heap.size w (W.alloc o) := h.alloc h.size o
theorem bel_call {w W W' : World} (h : Below w.heap.size w W) (k : Below W.heap.size W W') : Below w.heap.size w W' := h.trans (k.mono h.size)
theorem cellB {W W' : World} (hb : Below W.heap.size W W') {b o : Nat} {v : Value} (h : W.cell? ⟨b, o, none⟩ = some v) : W'.cell? ⟨b, o, none⟩ = some v :=
  (hb.cell (p := ⟨b, o, none⟩) (World.block_lt_of_cell? W ⟨b, o, none⟩ h)).trans h
abbrev Set3 := DataW Unit
abbrev OwnS (W : World) (b n : Nat) (D : Set3) : Prop := W.ownsMap Try.prog 3 (unitElem (H := Unit)) b n D
/-- Tabs behind a pointer: p: the fields' block; b: the map's. -/
structure TObj (W : World) (p b : Nat) (cols : Int) (n : Nat) (D : Set3) : Prop where
  c0 : W.cell? ⟨p, 0, none⟩ = some (.int .i64 cols)
  c1 : W.cell? ⟨p, 1, none⟩ = some (.map (some b))
  m : OwnS W b n D
theorem OwnS.kept {W W' : World} {b n : Nat} {D : Set3} (h : OwnS W b n D) (hb : W'.heap[b]? = W.heap[b]?) : OwnS W' b n D := by
  obtain ⟨es, clock, hh, r⟩ := h
  exact ⟨es, clock, hb.trans hh, r⟩
theorem TObj.lt {W : World} {p b : Nat} {c : Int} {n : Nat} {D : Set3} (h : TObj W p b c n D) : p < W.heap.size := World.block_lt_of_cell? W ⟨p, 0, none⟩ h.c0
theorem TObj.later {W W' : World} {p b : Nat} {c : Int} {n : Nat} {D : Set3} (h : TObj W p b c n D) (hb : Below W.heap.size W W') : TObj W' p b c n D :=
  ⟨cellB hb h.c0, cellB hb h.c1, OwnS.kept h.m (hb.block b (World.ownsMap.lt h.m))⟩
theorem new_ok (cols : Int) (h1 : 1 ≤ cols) (h2 : cols ≤ 255) (w : World) : Calls Try.prog 8 #[.int .i64 cols] w fun e w' => e = .returned (.tuple #[.pointer (some ⟨w.heap.size + 1, 0, none⟩), .int .i64 0]) ∧ w' = (w.alloc (.map #[] 0)).alloc (.cells #[.int .i64 cols, .map (some w.heap.size)] 55) := by
  have hmm := @run_makeMap Try.prog
  have g1 : ¬ cols < 1 := by omega
  have g2 : ¬ (255 : Int) < cols := by omega
  go_enter Try.func8, Try.ntmps8
  go_wp2_with fail
  go_ret2
  exact ⟨by simp, rfl⟩
theorem cols_any (w : World) (p b : Nat) (c : Int) (n : Nat) (D : Set3) (h : TObj w p b c n D) : Calls Try.prog 18 #[.pointer (some ⟨p, 0, none⟩)] w fun e w' => e = .returned (.int .i64 c) ∧ w' = w := by
  have k := h.c0
  clear h
  go_enter Try.func18, Try.ntmps18
  go_wp2_with fail
  go_ret
  exact ⟨rfl, rfl⟩
theorem cols_nil (w : World) : Calls Try.prog 18 #[.pointer none] w fun e w' => e = .returned (.int .i64 0) ∧ w' = w := by
  go_enter Try.func18, Try.ntmps18
  go_wp2_with fail
  go_ret
  exact ⟨rfl, rfl⟩
theorem list_nil (w : World) : Calls Try.prog 11 #[.pointer none] w fun e w' => e = .returned (.slice none 0 0) ∧ w' = w := by
  go_enter Try.func11, Try.ntmps11
  go_wp2_with fail
  go_ret
  exact ⟨rfl, rfl⟩
/-- A slice of ints of the call's own. -/
def OwnI (w : World) (base : Nat) (v : Value) (L : List Int) : Prop := w.ownsRow base 3 1 v L.length (L.map encZ)
set_option maxHeartbeats 1000000 in
theorem list_any (w : World) (p b : Nat) (c : Int) (nn : Nat) (D : Set3) (h : TObj w p b c nn D) (hmax : Maps.size D ≤ 100000) :
    Calls Try.prog 11 #[.pointer (some ⟨p, 0, none⟩)] w fun e w' => ∃ (v : Value) (ss : List Int), e = .returned v ∧ ss.Perm (intKeys D) ∧
      w'.ownsRow w.heap.size 3 1 v ss.length ((ss.mergeSort (fun x y => decide (x ≤ y))).map encZ) ∧ Below w.heap.size w w' := by
  refine (callsIn_wide (n := 6)).1 ?_
  have hown := h.m
  have k1 := h.c1
  have hbl := World.ownsMap.lt hown
  have hseq : SeqGives Fence.wide 2 Try.prog 40 #[.pointer (some ⟨w.heap.size, 0, none⟩)] encZ (fun ss => ss.Perm (intKeys D)) (Maps.size D) (w.alloc (.cells #[.map (some b)] 53)) :=
    AnyZI.keys_gives (ρ := Try.keysA_ren) { Try.keysA with } Fence.wide _ trivial rfl (by omega) w.heap.size b nn D _ (by simp) (by simp) (by
      obtain ⟨es, clock, hb, Ft, hs, hD⟩ := hown
      exact ⟨es, clock, (Below.heap_alloc _ _ b hbl).trans hb, Ft, hs, hD⟩)
  have cK : ∀ mb W, CallsIn Fence.wide 5 Try.prog 25 #[.map mb] W fun e w' => e = .returned (.func (.func 40) #[] #[.pointer (some ⟨W.heap.size, 0, none⟩)]) ∧ w' = W.alloc (.cells #[.map mb] 53) := fun mb W => AnyZI.keys_in Try.keysA Fence.wide 5 trivial rfl mb W
  have cS := AnyZI.sorted_in Try.sortedA Fence.wide 5 trivial trivial trivial trivial rfl (by omega) (Try.sortsA _) (enters_of Try.func39 (by kernel_rfl) rfl) 40 #[.pointer (some ⟨w.heap.size, 0, none⟩)] trivial (enters_of Try.func40 (by kernel_rfl) rfl) _ _ (by unfold maxLen; omega) (by omega) _ hseq
  change CallsIn _ _ Try.prog 24 _ _ _ at cS
  have hfK : Fence.wide.fn 25 := trivial
  have hfS : Fence.wide.fn 24 := trivial
  clear h hown
  refine callsIn_of_wp Try.func11 rfl trivial ?_ rfl
  simp only [Try.ntmps11, List.size_toArray, List.length_cons, List.length_nil, Nat.reduceAdd, Nat.reduceSub, Array.replicate_succ, Array.replicate_zero, List.push_toArray, List.append_toArray, List.nil_append, List.cons_append]
  gi_wp2_with (first
    | (gi_at_call 25; refine (cK _ _).mono ?_; rintro e w' ⟨rfl, rfl⟩)
    | (gi_at_call 24; refine cS.mono ?_; rintro e w' ⟨v, ss, rfl, hS, hrow, hnil, hb⟩))
  go_ret
  exact ⟨v, ss, rfl, hS, ownsRow_base_a hrow (by simp), ((Below.refl _ w).alloc (Nat.le_refl _) _).trans (hb.mono (by simp))⟩
end Go.Proofs.Ytpjodppcedkneaa
