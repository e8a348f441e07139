/- remap: what a nil map answers. -/
import Derived.Test.YtnfpfpppnfighaaDoorSE
namespace Go.Proofs.YtnfpfpppnfighaaDoor
open Go.Shelf Go.RowKit Go.Maps Go.Lib
set_option linter.unusedVariables false
set_option linter.unusedSimpArgs false
set_option maxRecDepth 100000
theorem set_nil (w : World) (e : Bool) (n : Int) (S : ByteArray) : Calls Tryd.prog 18 #[.pointer none, .agg #[.bool e, .int .i64 n], .string S] w fun r w' => r = .returned (.int .i64 2) ∧ Below w.heap.size w w' := by
  go_enter Tryd.func18, Tryd.ntmps18
  go_wp2_with fail
  go_ret
  exact ⟨rfl, bel_alloc (Below.refl _ _) _⟩
theorem get_nil (w : World) (e : Bool) (n : Int) : Calls Tryd.prog 19 #[.pointer none, .agg #[.bool e, .int .i64 n]] w fun r w' => r = .returned (.tuple #[.string ⟨#[]⟩, .bool false]) ∧ Below w.heap.size w w' := by
  go_enter Tryd.func19, Tryd.ntmps19
  go_wp2_with fail
  go_ret2
  exact ⟨rfl, bel_alloc (Below.refl _ _) _⟩
theorem used_nil (w : World) : Calls Tryd.prog 20 #[.pointer none] w fun r w' => r = .returned (.int .i64 0) ∧ w' = w := by
  go_enter Tryd.func20, Tryd.ntmps20
  go_wp2_with fail
  go_ret
  exact ⟨rfl, rfl⟩
theorem over_nil (w : World) : Calls Tryd.prog 21 #[.pointer none] w fun r w' => r = .returned (.bool false) ∧ w' = w := by
  go_enter Tryd.func21, Tryd.ntmps21
  go_wp2_with fail
  go_ret
  exact ⟨rfl, rfl⟩
theorem clear_nil (w : World) : Calls Tryd.prog 23 #[.pointer none] w fun r w' => r = .returned (.tuple #[]) ∧ w' = w := by
  go_enter Tryd.func23, Tryd.ntmps23
  go_wp2_with fail
  go_end0
  exact ⟨rfl, rfl⟩
theorem equal_func (f : Nat) (caps : Array Value) (W : World) : (Op.equalIn Op.maxDepth 60 (.func (.func f) #[] caps) .nilFunc).run Tryd.prog W = .ok false W := by
  rw [show Op.maxDepth = 9999 + 1 from rfl]
  have h := run_underlying Tryd.underlying60
  unfold Op.equalIn
  simp [Sem.run_bind, h, Result.andThen]
theorem func_eq (f : Nat) (caps : Array Value) (W : World) : (binOp .eql 60 (.func (.func f) #[] caps) .nilFunc).run Tryd.prog W = .ok (.bool false) W := by
  have h := equal_func f caps W
  simp [binOp, Op.equal, go_sem, h]
def c1 : CodeD := ⟨false, 1⟩
def c2 : CodeD := ⟨false, 2⟩
def mTwo : MF := MF.put (MF.put (fun _ _ => none) false 1 (some [97])) false 2 (some [98])
theorem ks_two : ksOf mTwo = [c1, c2] := by decide +kernel
theorem dom_two : Dom mTwo := by
  intro e n h
  unfold mTwo MF.put at h
  by_cases h2 : e = false ∧ n = 2
  · obtain ⟨rfl, rfl⟩ := h2; decide
  · rw [if_neg h2] at h
    by_cases h1 : e = false ∧ n = 1
    · obtain ⟨rfl, rfl⟩ := h1; decide
    · rw [if_neg h1] at h; cases h
end Go.Proofs.YtnfpfpppnfighaaDoor
