/- New, may and Code: what they answer. -/
import Derived.Test.YtkenihkfjepdfaaM1
import Derived.Test.YtkenihkfjepdfaaKR
namespace Go.Proofs.Ytkenihkfjepdfaa
open Go.RowKit Go.Maps
set_option linter.unusedVariables false
set_option linter.unusedSimpArgs false
theorem may_any (e : Bool) (n : Nat) (hn : n < 256) : Fn 27 #[codeV e n] (.bool (e || decide (0 < n))) := by
  intro w
  have h0 : (0 : Int) ≤ (n : Int) := by omega
  have h1 : (n : Int) ≤ 255 := by omega
  cases e
  · by_cases h : 0 < n
    · have h2 : (0 : Int) < (n : Int) := by omega
      go_enter Try.func27, Try.ntmps27
      go_wp2
      go_ret
      exact ⟨by simp [h], bel_alloc (Below.refl _ _) _⟩
    · have h2 : ¬ (0 : Int) < (n : Int) := by omega
      go_enter Try.func27, Try.ntmps27
      go_wp2
      go_ret
      exact ⟨by simp [h], bel_alloc (Below.refl _ _) _⟩
  · go_enter Try.func27, Try.ntmps27
    go_wp2
    go_ret
    exact ⟨by simp, bel_alloc (Below.refl _ _) _⟩
theorem new_any (w : World) : Calls Try.prog 15 #[.int .i64 4096] w fun e w' => e = .returned (.tuple #[.pointer (some ⟨w.heap.size + 1, 0, none⟩), .int .i64 0]) ∧ w' = (w.alloc (.map #[] 0)).alloc (.cells #[.map (some w.heap.size), .int .i64 4096, .int .i64 0, .bool false] 68) := by
  have hmm := @run_makeMap Try.prog
  go_enter Try.func15, Try.ntmps15
  go_wp2_with fail
  go_ret2
  exact ⟨by simp, rfl⟩
theorem dos_shape (k c : Int) (s t : Bool) (h : checkOf k c = 0) : ∃ (e : Bool) (n : Nat), n < 256 ∧ kSends 2 k c s t false = (if e then [0, (n : Int)] else [(n : Int)]) := by
  obtain ⟨k1, k5, hl, hh⟩ := range_of k c h
  obtain rfl | rfl | rfl | rfl | rfl : k = 1 ∨ k = 2 ∨ k = 3 ∨ k = 4 ∨ k = 5 := by omega
  · have a : lowOf 1 = 32 := rfl
    have b : highOf 1 = 126 := rfl
    have h2 : 0 ≤ charOf c s t ∧ charOf c s t < 256 := by
      unfold charOf
      dsimp only
      repeat' split
      all_goals omega
    refine ⟨false, (charOf c s t).toNat, by omega, ?_⟩
    have e : kSends 2 1 c s t false = [charOf c s t] := rfl
    rw [e]
    simp only [Bool.false_eq_true, if_false]
    rw [Int.toNat_of_nonneg h2.1]
  · have a : lowOf 2 = 0 := rfl
    have b : highOf 2 = 4 := rfl
    obtain rfl | rfl | rfl | rfl | rfl : c = 0 ∨ c = 1 ∨ c = 2 ∨ c = 3 ∨ c = 4 := by omega
    all_goals exact ⟨true, _, by decide, rfl⟩
  · have a : lowOf 3 = 0 := rfl
    have b : highOf 3 = 13 := rfl
    obtain rfl | rfl | rfl | rfl | rfl | rfl | rfl | rfl | rfl | rfl | rfl | rfl | rfl | rfl : c = 0 ∨ c = 1 ∨ c = 2 ∨ c = 3 ∨ c = 4 ∨ c = 5 ∨ c = 6 ∨ c = 7 ∨ c = 8 ∨ c = 9 ∨ c = 10 ∨ c = 11 ∨ c = 12 ∨ c = 13 := by omega
    all_goals exact ⟨false, _, by decide, rfl⟩
  · have a : lowOf 4 = 1 := rfl
    have b : highOf 4 = 12 := rfl
    obtain rfl | rfl | rfl | rfl | rfl | rfl | rfl | rfl | rfl | rfl | rfl | rfl : c = 1 ∨ c = 2 ∨ c = 3 ∨ c = 4 ∨ c = 5 ∨ c = 6 ∨ c = 7 ∨ c = 8 ∨ c = 9 ∨ c = 10 ∨ c = 11 ∨ c = 12 := by omega
    all_goals (cases s <;> cases t <;> exact ⟨true, _, by decide, rfl⟩)
  · have a : lowOf 5 = 0 := rfl
    have b : highOf 5 = 4 := rfl
    obtain rfl | rfl | rfl | rfl | rfl : c = 0 ∨ c = 1 ∨ c = 2 ∨ c = 3 ∨ c = 4 := by omega
    all_goals exact ⟨false, _, by decide, rfl⟩
end Go.Proofs.Ytkenihkfjepdfaa
