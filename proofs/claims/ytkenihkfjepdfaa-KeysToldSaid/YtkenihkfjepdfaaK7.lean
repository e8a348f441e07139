/- The contract of the reference's Right: it says what Check says. -/
import Derived.Test.YtkenihkfjepdfaaK4
import Derived.Deep.QuietTactic
import Derived.BigQuiet
namespace Go.Proofs.Ytkenihkfjepdfaa
open Go.RowKit
theorem checkOf_split (k c : Int) (h1 : 1 ≤ k) (h5 : k ≤ 5) : checkOf k c = if c < lowOf k then 1 else if highOf k < c then 1 else 0 := by
  unfold checkOf
  rw [if_neg (by omega)]
  by_cases a : c < lowOf k <;> by_cases b : highOf k < c <;> simp [a, b]
set_option maxHeartbeats 4000000 in
theorem right_1 (c : Int) (s t : Bool) : Fn 9 #[keyv 1 c s t] (.int .i64 (checkOf 1 c)) := by
  intro w
  rw [show checkOf 1 c = if c < 32 then 1 else if 126 < c then 1 else 0 from checkOf_split 1 c (by decide) (by decide)]
  unfold keyv
  by_cases a : c < 32
  · have ha : decide (c < 32) = true := by simpa using a
    rw [if_pos a]
    go_enter Try.func9, Try.ntmps9
    go_wp2
    go_quiet (fail)
    go_wp2
    go_ret
    exact ⟨rfl, by repeat (first | exact Below.refl _ _ | refine bel_alloc ?_ _ | refine bel_drewN ?_ _)⟩
  · have ha : decide (c < 32) = false := by simpa using a
    rw [if_neg a]
    by_cases b : 126 < c
    · have hb : decide (126 < c) = true := by simpa using b
      rw [if_pos b]
      go_enter Try.func9, Try.ntmps9
      go_wp2
      go_quiet (fail)
      go_wp2
      go_ret
      exact ⟨rfl, by repeat (first | exact Below.refl _ _ | refine bel_alloc ?_ _ | refine bel_drewN ?_ _)⟩
    · have hb : decide (126 < c) = false := by simpa using b
      rw [if_neg b]
      go_enter Try.func9, Try.ntmps9
      go_wp2
      go_quiet (fail)
      go_wp2
      go_ret
      exact ⟨rfl, by repeat (first | exact Below.refl _ _ | refine bel_alloc ?_ _ | refine bel_drewN ?_ _)⟩
set_option maxHeartbeats 4000000 in
theorem right_2 (c : Int) (s t : Bool) : Fn 9 #[keyv 2 c s t] (.int .i64 (checkOf 2 c)) := by
  intro w
  rw [show checkOf 2 c = if c < 0 then 1 else if 4 < c then 1 else 0 from checkOf_split 2 c (by decide) (by decide)]
  unfold keyv
  by_cases a : c < 0
  · have ha : decide (c < 0) = true := by simpa using a
    rw [if_pos a]
    go_enter Try.func9, Try.ntmps9
    go_wp2
    go_quiet (fail)
    go_wp2
    go_ret
    exact ⟨rfl, by repeat (first | exact Below.refl _ _ | refine bel_alloc ?_ _ | refine bel_drewN ?_ _)⟩
  · have ha : decide (c < 0) = false := by simpa using a
    rw [if_neg a]
    by_cases b : 4 < c
    · have hb : decide (4 < c) = true := by simpa using b
      rw [if_pos b]
      go_enter Try.func9, Try.ntmps9
      go_wp2
      go_quiet (fail)
      go_wp2
      go_ret
      exact ⟨rfl, by repeat (first | exact Below.refl _ _ | refine bel_alloc ?_ _ | refine bel_drewN ?_ _)⟩
    · have hb : decide (4 < c) = false := by simpa using b
      rw [if_neg b]
      go_enter Try.func9, Try.ntmps9
      go_wp2
      go_quiet (fail)
      go_wp2
      go_ret
      exact ⟨rfl, by repeat (first | exact Below.refl _ _ | refine bel_alloc ?_ _ | refine bel_drewN ?_ _)⟩
set_option maxHeartbeats 4000000 in
theorem right_3 (c : Int) (s t : Bool) : Fn 9 #[keyv 3 c s t] (.int .i64 (checkOf 3 c)) := by
  intro w
  rw [show checkOf 3 c = if c < 0 then 1 else if 13 < c then 1 else 0 from checkOf_split 3 c (by decide) (by decide)]
  unfold keyv
  by_cases a : c < 0
  · have ha : decide (c < 0) = true := by simpa using a
    rw [if_pos a]
    go_enter Try.func9, Try.ntmps9
    go_wp2
    go_quiet (fail)
    go_wp2
    go_ret
    exact ⟨rfl, by repeat (first | exact Below.refl _ _ | refine bel_alloc ?_ _ | refine bel_drewN ?_ _)⟩
  · have ha : decide (c < 0) = false := by simpa using a
    rw [if_neg a]
    by_cases b : 13 < c
    · have hb : decide (13 < c) = true := by simpa using b
      rw [if_pos b]
      go_enter Try.func9, Try.ntmps9
      go_wp2
      go_quiet (fail)
      go_wp2
      go_ret
      exact ⟨rfl, by repeat (first | exact Below.refl _ _ | refine bel_alloc ?_ _ | refine bel_drewN ?_ _)⟩
    · have hb : decide (13 < c) = false := by simpa using b
      rw [if_neg b]
      go_enter Try.func9, Try.ntmps9
      go_wp2
      go_quiet (fail)
      go_wp2
      go_ret
      exact ⟨rfl, by repeat (first | exact Below.refl _ _ | refine bel_alloc ?_ _ | refine bel_drewN ?_ _)⟩
set_option maxHeartbeats 4000000 in
theorem right_4 (c : Int) (s t : Bool) : Fn 9 #[keyv 4 c s t] (.int .i64 (checkOf 4 c)) := by
  intro w
  rw [show checkOf 4 c = if c < 1 then 1 else if 12 < c then 1 else 0 from checkOf_split 4 c (by decide) (by decide)]
  unfold keyv
  by_cases a : c < 1
  · have ha : decide (c < 1) = true := by simpa using a
    rw [if_pos a]
    go_enter Try.func9, Try.ntmps9
    go_wp2
    go_quiet (fail)
    go_wp2
    go_ret
    exact ⟨rfl, by repeat (first | exact Below.refl _ _ | refine bel_alloc ?_ _ | refine bel_drewN ?_ _)⟩
  · have ha : decide (c < 1) = false := by simpa using a
    rw [if_neg a]
    by_cases b : 12 < c
    · have hb : decide (12 < c) = true := by simpa using b
      rw [if_pos b]
      go_enter Try.func9, Try.ntmps9
      go_wp2
      go_quiet (fail)
      go_wp2
      go_ret
      exact ⟨rfl, by repeat (first | exact Below.refl _ _ | refine bel_alloc ?_ _ | refine bel_drewN ?_ _)⟩
    · have hb : decide (12 < c) = false := by simpa using b
      rw [if_neg b]
      go_enter Try.func9, Try.ntmps9
      go_wp2
      go_quiet (fail)
      go_wp2
      go_ret
      exact ⟨rfl, by repeat (first | exact Below.refl _ _ | refine bel_alloc ?_ _ | refine bel_drewN ?_ _)⟩
set_option maxHeartbeats 4000000 in
theorem right_5 (c : Int) (s t : Bool) : Fn 9 #[keyv 5 c s t] (.int .i64 (checkOf 5 c)) := by
  intro w
  rw [show checkOf 5 c = if c < 0 then 1 else if 4 < c then 1 else 0 from checkOf_split 5 c (by decide) (by decide)]
  unfold keyv
  by_cases a : c < 0
  · have ha : decide (c < 0) = true := by simpa using a
    rw [if_pos a]
    go_enter Try.func9, Try.ntmps9
    go_wp2
    go_quiet (fail)
    go_wp2
    go_ret
    exact ⟨rfl, by repeat (first | exact Below.refl _ _ | refine bel_alloc ?_ _ | refine bel_drewN ?_ _)⟩
  · have ha : decide (c < 0) = false := by simpa using a
    rw [if_neg a]
    by_cases b : 4 < c
    · have hb : decide (4 < c) = true := by simpa using b
      rw [if_pos b]
      go_enter Try.func9, Try.ntmps9
      go_wp2
      go_quiet (fail)
      go_wp2
      go_ret
      exact ⟨rfl, by repeat (first | exact Below.refl _ _ | refine bel_alloc ?_ _ | refine bel_drewN ?_ _)⟩
    · have hb : decide (4 < c) = false := by simpa using b
      rw [if_neg b]
      go_enter Try.func9, Try.ntmps9
      go_wp2
      go_quiet (fail)
      go_wp2
      go_ret
      exact ⟨rfl, by repeat (first | exact Below.refl _ _ | refine bel_alloc ?_ _ | refine bel_drewN ?_ _)⟩
theorem right_any (k c : Int) (s t : Bool) : Fn 9 #[keyv k c s t] (.int .i64 (checkOf k c)) := by
  by_cases hk : k < 1 ∨ 5 < k
  · intro w
    rw [show checkOf k c = 12 by unfold checkOf; rw [if_pos hk]]
    unfold keyv
    rcases hk with hk | hk
    · go_enter Try.func9, Try.ntmps9
      go_wp2
      go_ret
      exact ⟨rfl, bel_alloc (Below.refl _ _) _⟩
    · have hk' : ¬ k < 1 := by omega
      go_enter Try.func9, Try.ntmps9
      go_wp2
      go_ret
      exact ⟨rfl, bel_alloc (Below.refl _ _) _⟩
  · obtain rfl | rfl | rfl | rfl | rfl : k = 1 ∨ k = 2 ∨ k = 3 ∨ k = 4 ∨ k = 5 := by omega
    · exact right_1 c s t
    · exact right_2 c s t
    · exact right_3 c s t
    · exact right_4 c s t
    · exact right_5 c s t
end Go.Proofs.Ytkenihkfjepdfaa
