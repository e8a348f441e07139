/- The contracts of the reference's small functions: text, char, on, dos. -/
import Derived.Test.YtkenihkfjepdfaaK4
import Derived.Lib.Hide
namespace Go.Proofs.Ytkenihkfjepdfaa
open Go.RowKit
attribute [local go_sem] conv1

theorem nums_append (a b : List Int) : strOfNums a ++ strOfNums b = strOfNums (a ++ b) := by
  apply ByteArray.ext
  simp [strOfNums]
theorem nums_snoc (xs : List Int) (k : Nat) (h : k < xs.length) : strOfNums (xs.take k) ++ strOfNums [xs[k]] = strOfNums (xs.take (k + 1)) := by
  rw [nums_append, List.take_succ_eq_append_getElem h]
theorem text_any (w : World) (B : Nat) (xs : List Int) (hB : B < w.heap.size) (hl : xs.length ≤ 3) (hx : ∀ x ∈ xs, 0 ≤ x ∧ x ≤ 255) (hc : ∀ i, i < xs.length → w.cell? ⟨B, i, none⟩ = some (.int .i64 (xs[i]?.getD 0))) :
    Calls Try.prog 22 #[.slice (some ⟨B, 0, none⟩) xs.length xs.length] w fun e w' => e = .returned (.string (strOfNums xs)) ∧ Below w.heap.size w w' := by
  have Hx := Lib.hid hx
  have Hc := Lib.hid hc
  clear hx hc
  go_enter Try.func22, Try.ntmps22
  go_wp2
  go_loopw [3, 4] (fun s i wr => ∃ k : Nat, k ≤ xs.length ∧ i = .int .i64 k ∧ s = .string (strOfNums (xs.take k)) ∧ Below w.heap.size w wr) (fun _ i _ => xs.length - (intOf i).toNat)
  case atStart => exact ⟨0, Nat.zero_le _, rfl, rfl, Below.refl _ _⟩
  case round =>
    obtain ⟨k, hk, rfl, rfl, hb⟩ := hrel
    have Hb := Lib.hid hb
    by_cases hlt : k < xs.length
    · have hcell : wr.cell? ⟨B, k, none⟩ = some (.int .i64 (xs[k]?.getD 0)) := (hb.cell (p := ⟨B, k, none⟩) hB).trans (Hc.out k hlt)
      have h0 := (Hx.out xs[k] (by simp)).1
      have h1 := (Hx.out xs[k] (by simp)).2
      have hsz : ¬ 9223372036854775807 < (strOfNums (List.take k xs)).size + (strOfNums [xs[k]]).size := by rw [strOfNums_size, strOfNums_size]; simp; omega
      clear hb
      go_wp2
      go_roundw
      case rel => exact ⟨k + 1, by omega, by go_num, by rw [nums_snoc xs k hlt], bel_alloc Hb.out _⟩
      case measure => simp [intOf]; omega
    · have hk' : k = xs.length := by omega
      clear hb
      go_wp2
      go_ret
      exact ⟨ret_str (by rw [hk', List.take_length]), Hb.out⟩

set_option maxHeartbeats 4000000 in
theorem rchar_any (k c : Int) (s t : Bool) (h0 : 32 ≤ c) (h1 : c ≤ 126) : Fn 23 #[keyv k c s t] (.int .i64 (charOf c s t)) := by
  intro w
  unfold keyv
  by_cases h2 : 97 ≤ c
  all_goals by_cases h3 : c ≤ 122
  all_goals by_cases h4 : 64 ≤ c
  all_goals by_cases h5 : c ≤ 95
  all_goals first | (exfalso; omega) | skip
  all_goals cases s
  all_goals cases t
  all_goals
    go_enter Try.func23, Try.ntmps23
    go_wp2
    go_ret
    exact ⟨ret_int (by simp [charOf] <;> omega), by repeat (first | exact Below.refl _ _ | refine bel_alloc ?_ _)⟩
set_option maxHeartbeats 4000000 in
theorem rdos_any (k c : Int) (s t : Bool) (h0 : 1 ≤ c) (h1 : c ≤ 12) : Fn 25 #[keyv k c s t] (.int .i64 (dosOf c s t)) := by
  intro w
  unfold keyv
  by_cases h : 11 ≤ c
  all_goals cases s
  all_goals cases t
  all_goals
    go_enter Try.func25, Try.ntmps25
    go_wp2
    go_ret
    exact ⟨ret_int (by simp [dosOf] <;> omega), by repeat (first | exact Below.refl _ _ | refine bel_alloc ?_ _)⟩
theorem tab (l : List Int) (c : Int) : ∀ h, (l.map (Value.int .i64))[c.toNat]'h = .int .i64 (sel l c) := by
  intro h
  have h' : c.toNat < l.length := by simpa using h
  simp [sel, List.getD, h']
theorem pads_low (c : Int) (h0 : 0 ≤ c) (h1 : c < 10) : sel pads c = 48 + c := by
  obtain rfl | rfl | rfl | rfl | rfl | rfl | rfl | rfl | rfl | rfl : c = 0 ∨ c = 1 ∨ c = 2 ∨ c = 3 ∨ c = 4 ∨ c = 5 ∨ c = 6 ∨ c = 7 ∨ c = 8 ∨ c = 9 := by omega
  all_goals rfl
theorem on_any (c : Int) (h0 : 0 ≤ c) (h1 : c ≤ 13) : Fn 24 #[.int .i64 c] (.int .i64 (sel pads c)) := by
  intro w
  by_cases h : c < 10
  · rw [pads_low c h0 h]
    go_enter Try.func24, Try.ntmps24
    go_wp2
    go_ret
    exact ⟨rfl, Below.refl _ _⟩
  · have ht : ∀ h, ([Value.int .i64 46, Value.int .i64 44, Value.int .i64 45, Value.int .i64 13] : List Value)[(c - 10).toNat]'h = .int .i64 (sel pads c) := by
      intro h'
      have e := tab [46, 44, 45, 13] (c - 10) h'
      rw [show sel [46, 44, 45, 13] (c - 10) = sel pads c from by
        obtain rfl | rfl | rfl | rfl : c = 10 ∨ c = 11 ∨ c = 12 ∨ c = 13 := by omega
        all_goals rfl] at e
      exact e
    generalize sel pads c = y at *
    have h2 : c - 10 < 4 := by omega
    have h3 : 0 ≤ c - 10 := by omega
    go_enter Try.func24, Try.ntmps24
    go_wp2
    go_ret
    exact ⟨rfl, bel_alloc (Below.refl _ _) _⟩
end Go.Proofs.Ytkenihkfjepdfaa
