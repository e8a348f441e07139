/- remap: New, Get, cost, Used, Over: what they answer. -/
import Derived.Test.YtnfpfpppnfighaaDoorRJ
namespace Go.Proofs.YtnfpfpppnfighaaDoor
open Go.Shelf Go.RowKit Go.Maps
set_option linter.unusedVariables false
set_option linter.unusedSimpArgs false
set_option maxRecDepth 100000
/-- A map behind a pointer: p: its fields' block; b: the map's own. -/
structure MObj (W : World) (base p b N : Nat) (most : Int) (m : MF) (over : Bool) : Prop where
  blk : W.heap[p]? = some (.cells #[.map (some b), .int .i64 most, .int .i64 (tot m), .bool over] 85 (0, 0))
  map : MapT W b N m
  lo : base ≤ p ∧ base ≤ b
theorem MObj.lt {W : World} {base p b N : Nat} {most : Int} {m : MF} {over : Bool} (h : MObj W base p b N most m over) : p < W.heap.size := (Array.getElem?_eq_some_iff.1 h.blk).1
theorem MObj.ne {W : World} {base p b N : Nat} {most : Int} {m : MF} {over : Bool} (h : MObj W base p b N most m over) : b ≠ p := by
  rintro rfl
  obtain ⟨es, clock, hh⟩ := h.map.block
  rw [h.blk] at hh
  simp at hh
theorem MObj.later {W W' : World} {base p b N : Nat} {most : Int} {m : MF} {over : Bool} (h : MObj W base p b N most m over) (hb : Below W.heap.size W W') : MObj W' base p b N most m over :=
  ⟨(hb.block p h.lt).trans h.blk, h.map.kept (hb.block b h.map.lt), h.lo⟩
theorem MObj.cells {W : World} {base p b N : Nat} {most : Int} {m : MF} {over : Bool} (h : MObj W base p b N most m over) :
    (W.cell? ⟨p, 0, none⟩ = some (.map (some b)) ∧ W.cell? ⟨p, 1, none⟩ = some (.int .i64 most) ∧ W.cell? ⟨p, 2, none⟩ = some (.int .i64 (tot m)) ∧ W.cell? ⟨p, 3, none⟩ = some (.bool over)) ∧ (W.frozen? ⟨p, 2, none⟩ = false ∧ W.frozen? ⟨p, 3, none⟩ = false) :=
  ⟨⟨by simp [World.cell?, h.blk], by simp [World.cell?, h.blk], by simp [World.cell?, h.blk], by simp [World.cell?, h.blk]⟩, Lib.frozen_of_heap h.blk 2, Lib.frozen_of_heap h.blk 3⟩
theorem new_bad (w : World) (most : Int) (h : most < 0 ∨ 4096 < most) : Calls Tryd.prog 16 #[.int .i64 most] w fun e w' => e = .returned (.tuple #[.pointer none, .int .i64 1]) ∧ w' = w := by
  by_cases h0 : most < 0
  · go_enter Tryd.func16, Tryd.ntmps16
    go_wp2_with fail
    go_ret2
    exact ⟨rfl, rfl⟩
  · have h1 : 4096 < most := by omega
    go_enter Tryd.func16, Tryd.ntmps16
    go_wp2_with fail
    go_ret2
    exact ⟨rfl, rfl⟩
theorem new_any (w : World) (most : Int) (h0 : ¬ most < 0) (h1 : ¬ 4096 < most) : Calls Tryd.prog 16 #[.int .i64 most] w fun e w' => e = .returned (.tuple #[.pointer (some ⟨w.heap.size + 1, 0, none⟩), .int .i64 0]) ∧
    MObj w' w.heap.size (w.heap.size + 1) w.heap.size 0 most (fun _ _ => none) false ∧ Below w.heap.size w w' := by
  have hmm := @run_makeMap Tryd.prog
  have HE := Lib.hid (show MObj ((w.alloc (.map #[] 0)).alloc (.cells #[.map (some w.heap.size), .int .i64 most, .int .i64 0, .bool false] 85)) w.heap.size (w.heap.size + 1) w.heap.size 0 most (fun _ _ => none) false ∧ Below w.heap.size w ((w.alloc (.map #[] 0)).alloc (.cells #[.map (some w.heap.size), .int .i64 most, .int .i64 0, .bool false] 85)) from by
    have hb := bel_alloc (Below.refl (w.alloc (.map #[] 0)).heap.size (w.alloc (.map #[] 0))) (.cells #[.map (some w.heap.size), .int .i64 most, .int .i64 0, .bool false] 85)
    refine ⟨⟨?_, (MapT.made w).kept (hb.block _ (by simp)), by omega, by omega⟩, bel_alloc (bel_alloc (Below.refl _ _) _) _⟩
    have ht : tot (fun _ _ => none) = 0 := by decide +kernel
    rw [ht]
    have := (MapKept.heap_alloc (w.alloc (.map #[] 0)) (.cells #[.map (some w.heap.size), .int .i64 most, .int .i64 0, .bool false] 85)).1
    simpa using this)
  go_enter Tryd.func16, Tryd.ntmps16
  go_wp2_with fail
  go_ret2
  exact ⟨by simp, HE.out⟩
theorem get_any (w : World) (base p b N : Nat) (most : Int) (m : MF) (over : Bool) (h : MObj w base p b N most m over) (e : Bool) (n : Int) (h0 : -9223372036854775808 ≤ n) (h1 : n ≤ 9223372036854775807) :
    Calls Tryd.prog 19 #[.pointer (some ⟨p, 0, none⟩), .agg #[.bool e, .int .i64 n]] w fun r w' => r = .returned (.tuple #[.string (st ((m e n).getD [])), .bool (m e n).isSome]) ∧ Below w.heap.size w w' := by
  have hB : Below w.heap.size w (w.alloc (.cells #[.bool e, .int .i64 n] 24)) := bel_alloc (Below.refl _ _) _
  have hm := h.later hB
  obtain ⟨⟨k0, -, -, -⟩, -⟩ := hm.cells
  have hlk : ∀ q, (Instr.lookup 83 (.map (some b)) (.agg #[.bool e, .int .i64 n]) true).run Tryd.prog ((w.alloc (.cells #[.bool e, .int .i64 n] 24)).drewN q) = .ok (.tuple #[.string (st ((m e n).getD [])), .bool (m e n).isSome]) ((w.alloc (.cells #[.bool e, .int .i64 n] 24)).drewN q) :=
    fun q => MapT.look (W := (w.alloc (.cells #[.bool e, .int .i64 n] 24)).drewN q) (hm.map.kept rfl) e n h0 h1
  have HB := Lib.hid hB
  clear h hm hB h0 h1
  obtain ⟨A, hA⟩ : ∃ A, st ((m e n).getD []) = A := ⟨_, rfl⟩
  obtain ⟨q, hq⟩ : ∃ q, (m e n).isSome = q := ⟨_, rfl⟩
  rw [hA, hq] at hlk
  rw [hA, hq]
  clear hA hq
  go_enter Tryd.func19, Tryd.ntmps19
  go_wp2_with fail
  go_quiet (fail)
  go_wp2_with fail
  go_ret2
  exact ⟨rfl, bel_drewN HB.out _⟩
theorem cost_any (w : World) (base p b N : Nat) (most : Int) (m : MF) (over : Bool) (h : MObj w base p b N most m over) (e : Bool) (n : Int) (h0 : -9223372036854775808 ≤ n) (h1 : n ≤ 9223372036854775807) (hc : costO (m e n) ≤ 1000000) :
    Calls Tryd.prog 35 #[.pointer (some ⟨p, 0, none⟩), .agg #[.bool e, .int .i64 n]] w fun r w' => r = .returned (.int .i64 (costO (m e n))) ∧ Below w.heap.size w w' := by
  have hB : Below w.heap.size w (w.alloc (.cells #[.bool e, .int .i64 n] 24)) := bel_alloc (Below.refl _ _) _
  have hm := h.later hB
  obtain ⟨⟨k0, -, -, -⟩, -⟩ := hm.cells
  have hlk : ∀ q, (Instr.lookup 83 (.map (some b)) (.agg #[.bool e, .int .i64 n]) true).run Tryd.prog ((w.alloc (.cells #[.bool e, .int .i64 n] 24)).drewN q) = .ok (.tuple #[.string (st ((m e n).getD [])), .bool (m e n).isSome]) ((w.alloc (.cells #[.bool e, .int .i64 n] 24)).drewN q) :=
    fun q => MapT.look (W := (w.alloc (.cells #[.bool e, .int .i64 n] 24)).drewN q) (hm.map.kept rfl) e n h0 h1
  have HB := Lib.hid hB
  clear h hm hB h0 h1
  cases hv : m e n with
  | none =>
    rw [hv] at hlk
    simp only [Option.getD_none, Option.isSome_none] at hlk
    obtain ⟨A, hA⟩ : ∃ A, st [] = A := ⟨_, rfl⟩
    rw [hA] at hlk
    clear hA hc hv
    go_enter Tryd.func35, Tryd.ntmps35
    go_wp2_with fail
    go_quiet (fail)
    go_wp2_with fail
    go_ret
    exact ⟨rfl, bel_drewN HB.out _⟩
  | some s =>
    rw [hv] at hlk hc
    simp only [Option.getD_some, Option.isSome_some] at hlk
    simp only [costO] at hc ⊢
    obtain ⟨A, hA⟩ : ∃ A, st s = A := ⟨_, rfl⟩
    have zA : A.size = s.length := by rw [← hA, st_size]
    obtain ⟨L, hL⟩ : ∃ L, s.length = L := ⟨_, rfl⟩
    rw [hA] at hlk
    rw [hL] at zA hc ⊢
    have w1 : IntKind.i64.wrap (3 + (L : Int)) = ((3 + L : Nat) : Int) := by rw [IntWalk.i64_in _ (by omega)]; omega
    clear hA hv hL hc
    go_enter Tryd.func35, Tryd.ntmps35
    go_wp2_with fail
    go_quiet (fail)
    go_wp2_with fail
    go_ret
    exact ⟨rfl, bel_drewN HB.out _⟩
theorem used_any (w : World) (base p b N : Nat) (most : Int) (m : MF) (over : Bool) (h : MObj w base p b N most m over) :
    Calls Tryd.prog 20 #[.pointer (some ⟨p, 0, none⟩)] w fun r w' => r = .returned (.int .i64 (tot m)) ∧ w' = w := by
  obtain ⟨⟨-, -, k2, -⟩, -⟩ := h.cells
  clear h
  generalize ((tot m : Nat) : Int) = T at *
  go_enter Tryd.func20, Tryd.ntmps20
  go_wp2_with fail
  go_ret
  exact ⟨rfl, rfl⟩
theorem over_any (w : World) (base p b N : Nat) (most : Int) (m : MF) (over : Bool) (h : MObj w base p b N most m over) :
    Calls Tryd.prog 21 #[.pointer (some ⟨p, 0, none⟩)] w fun r w' => r = .returned (.bool over) ∧ w' = w := by
  obtain ⟨⟨-, -, -, k3⟩, -⟩ := h.cells
  clear h
  go_enter Tryd.func21, Tryd.ntmps21
  go_wp2_with fail
  go_ret
  exact ⟨rfl, rfl⟩
/-- What Set answers, and how the texts turn. -/
def setE (most : Int) (m : MF) (e : Bool) (n : Int) (s : List UInt8) : Int :=
  if mayB e n then (if s = [] then 0 else if most < (tot m : Int) - costO (m e n) + 3 + s.length then 13 else 0) else 1
def setM (most : Int) (m : MF) (e : Bool) (n : Int) (s : List UInt8) : MF :=
  if mayB e n then (if s = [] then m.put e n none else if most < (tot m : Int) - costO (m e n) + 3 + s.length then m else m.put e n (some s)) else m
def setO (most : Int) (m : MF) (over : Bool) (e : Bool) (n : Int) (s : List UInt8) : Bool :=
  if mayB e n then (if s = [] then over else if most < (tot m : Int) - costO (m e n) + 3 + s.length then true else over) else over
end Go.Proofs.YtnfpfpppnfighaaDoor
