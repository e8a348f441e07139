/- The walk of KeysSends. -/
import Derived.Test.YtkenihkfjepdfaaK5
import Derived.Test.YtkenihkfjepdfaaK7
import Derived.Test.YtkenihkfjepdfaaK8
namespace Go.Proofs.Ytkenihkfjepdfaa
open Go.RowKit
set_option linter.unusedVariables false

theorem kSends_len (p k c : Int) (s t pad : Bool) : (kSends p k c s t pad).length ≤ 3 := by
  unfold kSends
  (repeat' split) <;> simp
theorem sz1 {w w1 : World} {o : Obj} (h : Below (w.alloc o).heap.size (w.alloc o) w1) : w.heap.size < w1.heap.size := by
  have := h.size; simp at this; omega
theorem sz2 {w w1 w2 : World} (h : w.heap.size < w1.heap.size) (k : Below w1.heap.size w1 w2) : w.heap.size < w2.heap.size := by
  have := k.size; omega
theorem sends_none (p k c : Int) (s t pad : Bool) (hp : p < 1 ∨ 4 < p) : Fn 3 #[.int .i64 p, keyv k c s t, .bool pad] (.bool true) := by
  intro w
  have HA := awake_any
  have HR := right_any k c s t
  have HC := check_any k c s t
  have HE := encode_none p k c s t pad hp
  rw [nil_str] at HE
  generalize checkOf k c = e at *
  unfold keyv at *
  rcases hp with hp | hp
  · go_enter Try.func3, Try.ntmps3
    go_wp2_with (first
      | (go_at_call 9; refine (HR _).mono ?_; rintro e w1 ⟨rfl, hb1⟩; obtain ⟨hc1, hf1⟩ := bcell hb1; have hz1 := sz1 hb1)
      | (go_at_call 10; refine (HC _).mono ?_; rintro e w2 ⟨rfl, hb2⟩; obtain ⟨hc2, hf2⟩ := bcell hb2; have hz2 := sz2 hz1 hb2)
      | (go_at_call 11; refine (HE _).mono ?_; rintro e w3 ⟨rfl, hb3⟩)
      | (go_at_call 12; refine (HA _).mono ?_; rintro e w4 ⟨rfl, hb4⟩))
    go_ret
    exact ⟨rfl, by repeat (first | exact Below.refl _ _ | refine bel_alloc ?_ _ | refine bel_call ?_ hb4 | refine bel_call ?_ hb3 | refine bel_call ?_ hb2 | refine bel_call ?_ hb1)⟩
  · have hp' : ¬ p < 1 := by omega
    go_enter Try.func3, Try.ntmps3
    go_wp2_with (first
      | (go_at_call 9; refine (HR _).mono ?_; rintro e w1 ⟨rfl, hb1⟩; obtain ⟨hc1, hf1⟩ := bcell hb1; have hz1 := sz1 hb1)
      | (go_at_call 10; refine (HC _).mono ?_; rintro e w2 ⟨rfl, hb2⟩; obtain ⟨hc2, hf2⟩ := bcell hb2; have hz2 := sz2 hz1 hb2)
      | (go_at_call 11; refine (HE _).mono ?_; rintro e w3 ⟨rfl, hb3⟩)
      | (go_at_call 12; refine (HA _).mono ?_; rintro e w4 ⟨rfl, hb4⟩))
    go_ret
    exact ⟨rfl, by repeat (first | exact Below.refl _ _ | refine bel_alloc ?_ _ | refine bel_call ?_ hb4 | refine bel_call ?_ hb3 | refine bel_call ?_ hb2 | refine bel_call ?_ hb1)⟩
theorem sends_bad (p k c : Int) (s t pad : Bool) (h1 : 1 ≤ p) (h4 : p ≤ 4) (hc : checkOf k c ≠ 0) : Fn 3 #[.int .i64 p, keyv k c s t, .bool pad] (.bool true) := by
  intro w
  have HA := awake_any
  have HR := right_any k c s t
  have HC := check_any k c s t
  have HE := encode_bad p k c s t pad h1 h4 hc
  rw [nil_str] at HE
  have hn : (checkOf k c != 0) = true := by simpa using hc
  clear hc
  generalize checkOf k c = e at *
  unfold keyv at *
  have q1 : ¬ p < 1 := by omega
  have q4 : ¬ 4 < p := by omega
  go_enter Try.func3, Try.ntmps3
  go_wp2_with (first
    | (go_at_call 9; refine (HR _).mono ?_; rintro e w1 ⟨rfl, hb1⟩; obtain ⟨hc1, hf1⟩ := bcell hb1; have hz1 := sz1 hb1)
    | (go_at_call 10; refine (HC _).mono ?_; rintro e w2 ⟨rfl, hb2⟩; obtain ⟨hc2, hf2⟩ := bcell hb2; have hz2 := sz2 hz1 hb2)
    | (go_at_call 11; refine (HE _).mono ?_; rintro e w3 ⟨rfl, hb3⟩)
    | (go_at_call 12; refine (HA _).mono ?_; rintro e w4 ⟨rfl, hb4⟩))
  go_ret
  exact ⟨rfl, by repeat (first | exact Below.refl _ _ | refine bel_alloc ?_ _ | refine bel_call ?_ hb4 | refine bel_call ?_ hb3 | refine bel_call ?_ hb2 | refine bel_call ?_ hb1)⟩
theorem sends_ok (p k c : Int) (s t pad : Bool) (h1 : 1 ≤ p) (h4 : p ≤ 4) (hc : checkOf k c = 0) : Fn 3 #[.int .i64 p, keyv k c s t, .bool pad] (.bool true) := by
  intro w
  have HA := awake_any
  have HR := right_any k c s t
  have HC := check_any k c s t
  have HE := encode_ok p k c s t pad h1 h4 hc
  have HS := rsends_any p k c s t pad h1 hc
  have hl : (strOfNums (kSends p k c s t pad)).size ≤ 3 := by rw [strOfNums_size]; exact kSends_len ..
  rw [hc] at HR HC
  clear hc
  generalize strOfNums (kSends p k c s t pad) = v at *
  unfold keyv at *
  have q1 : ¬ p < 1 := by omega
  have q4 : ¬ 4 < p := by omega
  go_enter Try.func3, Try.ntmps3
  go_wp2_with (first
    | (go_at_call 9; refine (HR _).mono ?_; rintro e w1 ⟨rfl, hb1⟩; obtain ⟨hc1, hf1⟩ := bcell hb1; have hz1 := sz1 hb1)
    | (go_at_call 10; refine (HC _).mono ?_; rintro e w2 ⟨rfl, hb2⟩; obtain ⟨hc2, hf2⟩ := bcell hb2; have hz2 := sz2 hz1 hb2)
    | (go_at_call 11; refine (HE _).mono ?_; rintro e w3 ⟨rfl, hb3⟩; obtain ⟨hc3, hf3⟩ := bcell hb3; have hz3 := sz2 hz2 hb3)
    | (go_at_call 13; refine (HS _).mono ?_; rintro e w4 ⟨rfl, hb4⟩)
    | (go_at_call 12; refine (HA _).mono ?_; rintro e w5 ⟨rfl, hb5⟩))
  go_ret
  exact ⟨rfl, by repeat (first | exact Below.refl _ _ | refine bel_alloc ?_ _ | refine bel_call ?_ hb5 | refine bel_call ?_ hb4 | refine bel_call ?_ hb3 | refine bel_call ?_ hb2 | refine bel_call ?_ hb1)⟩
theorem sends_walk (p k c : Int) (s t pad : Bool) : Fn 3 #[.int .i64 p, .agg #[.int .i64 k, .int .i64 c, .bool s, .bool t], .bool pad] (.bool true) := by
  by_cases hp : p < 1 ∨ 4 < p
  · exact sends_none p k c s t pad hp
  · by_cases hc : checkOf k c = 0
    · exact sends_ok p k c s t pad (by omega) (by omega) hc
    · exact sends_bad p k c s t pad (by omega) (by omega) hc
end Go.Proofs.Ytkenihkfjepdfaa
