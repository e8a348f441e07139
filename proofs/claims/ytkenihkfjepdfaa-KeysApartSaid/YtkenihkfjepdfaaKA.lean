/- The walk of KeysApart. -/
import Derived.Test.YtkenihkfjepdfaaK9
namespace Go.Proofs.Ytkenihkfjepdfaa
open Go.RowKit
set_option linter.unusedVariables false
set_option maxHeartbeats 1000000 in
theorem same_2_0 (c : Int) (s t s' t' pad : Bool) (v1 : ByteArray) (e1 : Int)
    (H1 : Fn 11 #[.int .i64 1, .agg #[.int .i64 2, .int .i64 c, .bool false, .bool false], .bool pad] (.tuple #[.string v1, .int .i64 e1])) :
    Fn 4 #[.bool false, .agg #[.int .i64 2, .int .i64 c, .bool s, .bool t, .int .i64 2, .int .i64 c, .bool s', .bool t'], .bool pad] (.bool true) := by
  intro w
  have HA := awake_any
  go_enter Try.func4, Try.ntmps4
  go_wp2_with fail
  refine (H1 _).mono ?_
  rintro e w1 ⟨rfl, hb1⟩
  have hz := hb1.size
  simp at hz
  obtain ⟨hc1, hf1⟩ := bcell hb1
  have hz0 : w.heap.size + 1 < w1.heap.size := by omega
  have hz1 : w.heap.size + 1 + 1 < w1.heap.size := by omega
  clear hz
  go_wp2_with fail
  refine (H1 _).mono ?_
  rintro e w2 ⟨rfl, hb2⟩
  obtain ⟨hc2, hf2⟩ := bcell hb2
  go_wp2_with (go_at_call 12; refine (HA _).mono ?_; rintro e w3 ⟨rfl, hb3⟩)
  all_goals go_ret
  all_goals exact ⟨rfl, by repeat (first | exact Below.refl _ _ | refine bel_alloc ?_ _ | refine bel_call ?_ hb3 | refine bel_call ?_ hb2 | refine bel_call ?_ hb1)⟩
set_option maxHeartbeats 1000000 in
theorem same_3_0 (c : Int) (s t s' t' pad : Bool) (v1 : ByteArray) (e1 : Int)
    (H1 : Fn 11 #[.int .i64 1, .agg #[.int .i64 3, .int .i64 c, .bool false, .bool false], .bool pad] (.tuple #[.string v1, .int .i64 e1])) :
    Fn 4 #[.bool false, .agg #[.int .i64 3, .int .i64 c, .bool s, .bool t, .int .i64 3, .int .i64 c, .bool s', .bool t'], .bool pad] (.bool true) := by
  intro w
  have HA := awake_any
  go_enter Try.func4, Try.ntmps4
  go_wp2_with fail
  refine (H1 _).mono ?_
  rintro e w1 ⟨rfl, hb1⟩
  have hz := hb1.size
  simp at hz
  obtain ⟨hc1, hf1⟩ := bcell hb1
  have hz0 : w.heap.size + 1 < w1.heap.size := by omega
  have hz1 : w.heap.size + 1 + 1 < w1.heap.size := by omega
  clear hz
  go_wp2_with fail
  refine (H1 _).mono ?_
  rintro e w2 ⟨rfl, hb2⟩
  obtain ⟨hc2, hf2⟩ := bcell hb2
  go_wp2_with (go_at_call 12; refine (HA _).mono ?_; rintro e w3 ⟨rfl, hb3⟩)
  all_goals go_ret
  all_goals exact ⟨rfl, by repeat (first | exact Below.refl _ _ | refine bel_alloc ?_ _ | refine bel_call ?_ hb3 | refine bel_call ?_ hb2 | refine bel_call ?_ hb1)⟩
set_option maxHeartbeats 1000000 in
theorem same_4_0 (c : Int) (s t s' t' pad : Bool) (v1 : ByteArray) (e1 : Int)
    (H1 : Fn 11 #[.int .i64 1, .agg #[.int .i64 4, .int .i64 c, .bool false, .bool false], .bool pad] (.tuple #[.string v1, .int .i64 e1])) :
    Fn 4 #[.bool false, .agg #[.int .i64 4, .int .i64 c, .bool s, .bool t, .int .i64 4, .int .i64 c, .bool s', .bool t'], .bool pad] (.bool true) := by
  intro w
  have HA := awake_any
  go_enter Try.func4, Try.ntmps4
  go_wp2_with fail
  refine (H1 _).mono ?_
  rintro e w1 ⟨rfl, hb1⟩
  have hz := hb1.size
  simp at hz
  obtain ⟨hc1, hf1⟩ := bcell hb1
  have hz0 : w.heap.size + 1 < w1.heap.size := by omega
  have hz1 : w.heap.size + 1 + 1 < w1.heap.size := by omega
  clear hz
  go_wp2_with fail
  refine (H1 _).mono ?_
  rintro e w2 ⟨rfl, hb2⟩
  obtain ⟨hc2, hf2⟩ := bcell hb2
  go_wp2_with (go_at_call 12; refine (HA _).mono ?_; rintro e w3 ⟨rfl, hb3⟩)
  all_goals go_ret
  all_goals exact ⟨rfl, by repeat (first | exact Below.refl _ _ | refine bel_alloc ?_ _ | refine bel_call ?_ hb3 | refine bel_call ?_ hb2 | refine bel_call ?_ hb1)⟩
set_option maxHeartbeats 1000000 in
theorem diff_22_0 (c c' : Int) (s t s' t' pad : Bool) (v1 v2 : ByteArray) (e1 e2 : Int)
    (H1 : Fn 11 #[.int .i64 1, .agg #[.int .i64 2, .int .i64 c, .bool false, .bool false], .bool pad] (.tuple #[.string v1, .int .i64 e1]))
    (H2 : Fn 11 #[.int .i64 1, .agg #[.int .i64 2, .int .i64 c', .bool false, .bool false], .bool pad] (.tuple #[.string v2, .int .i64 e2]))
    (hv : Hid (e1 = 0 → e2 = 0 → ¬ v1.toList = [] → ¬ v1.toList = v2.toList)) (hne : (c == c') = false) :
    Fn 4 #[.bool false, .agg #[.int .i64 2, .int .i64 c, .bool s, .bool t, .int .i64 2, .int .i64 c', .bool s', .bool t'], .bool pad] (.bool true) := by
  intro w
  have HA := awake_any
  go_enter Try.func4, Try.ntmps4
  go_wp2_with fail
  refine (H1 _).mono ?_
  rintro e w1 ⟨rfl, hb1⟩
  have hz := hb1.size
  simp at hz
  obtain ⟨hc1, hf1⟩ := bcell hb1
  have hz0 : w.heap.size + 1 < w1.heap.size := by omega
  have hz1 : w.heap.size + 1 + 1 < w1.heap.size := by omega
  clear hz
  go_wp2_with fail
  refine (H2 _).mono ?_
  rintro e w2 ⟨rfl, hb2⟩
  obtain ⟨hc2, hf2⟩ := bcell hb2
  go_wp2_with (go_at_call 12; refine (HA _).mono ?_; rintro e w3 ⟨rfl, hb3⟩)
  all_goals go_ret
  all_goals first
    | exact ⟨rfl, by repeat (first | exact Below.refl _ _ | refine bel_alloc ?_ _ | refine bel_call ?_ hb3 | refine bel_call ?_ hb2 | refine bel_call ?_ hb1)⟩
    | exact ⟨ret_bool (show (!(v1.toList == v2.toList)) = true by simpa using ‹¬ v1.toList = v2.toList›), by repeat (first | exact Below.refl _ _ | refine bel_alloc ?_ _ | refine bel_call ?_ hb3 | refine bel_call ?_ hb2 | refine bel_call ?_ hb1)⟩
    | exact absurd ‹v1.toList = v2.toList› (hv.out ‹_› ‹_› ‹_›)
set_option maxHeartbeats 1000000 in
theorem diff_33_0 (c c' : Int) (s t s' t' pad : Bool) (v1 v2 : ByteArray) (e1 e2 : Int)
    (H1 : Fn 11 #[.int .i64 1, .agg #[.int .i64 3, .int .i64 c, .bool false, .bool false], .bool pad] (.tuple #[.string v1, .int .i64 e1]))
    (H2 : Fn 11 #[.int .i64 1, .agg #[.int .i64 3, .int .i64 c', .bool false, .bool false], .bool pad] (.tuple #[.string v2, .int .i64 e2]))
    (hv : Hid (e1 = 0 → e2 = 0 → ¬ v1.toList = [] → ¬ v1.toList = v2.toList)) (hne : (c == c') = false) :
    Fn 4 #[.bool false, .agg #[.int .i64 3, .int .i64 c, .bool s, .bool t, .int .i64 3, .int .i64 c', .bool s', .bool t'], .bool pad] (.bool true) := by
  intro w
  have HA := awake_any
  go_enter Try.func4, Try.ntmps4
  go_wp2_with fail
  refine (H1 _).mono ?_
  rintro e w1 ⟨rfl, hb1⟩
  have hz := hb1.size
  simp at hz
  obtain ⟨hc1, hf1⟩ := bcell hb1
  have hz0 : w.heap.size + 1 < w1.heap.size := by omega
  have hz1 : w.heap.size + 1 + 1 < w1.heap.size := by omega
  clear hz
  go_wp2_with fail
  refine (H2 _).mono ?_
  rintro e w2 ⟨rfl, hb2⟩
  obtain ⟨hc2, hf2⟩ := bcell hb2
  go_wp2_with (go_at_call 12; refine (HA _).mono ?_; rintro e w3 ⟨rfl, hb3⟩)
  all_goals go_ret
  all_goals first
    | exact ⟨rfl, by repeat (first | exact Below.refl _ _ | refine bel_alloc ?_ _ | refine bel_call ?_ hb3 | refine bel_call ?_ hb2 | refine bel_call ?_ hb1)⟩
    | exact ⟨ret_bool (show (!(v1.toList == v2.toList)) = true by simpa using ‹¬ v1.toList = v2.toList›), by repeat (first | exact Below.refl _ _ | refine bel_alloc ?_ _ | refine bel_call ?_ hb3 | refine bel_call ?_ hb2 | refine bel_call ?_ hb1)⟩
    | exact absurd ‹v1.toList = v2.toList› (hv.out ‹_› ‹_› ‹_›)
set_option maxHeartbeats 1000000 in
theorem diff_44_0 (c c' : Int) (s t s' t' pad : Bool) (v1 v2 : ByteArray) (e1 e2 : Int)
    (H1 : Fn 11 #[.int .i64 1, .agg #[.int .i64 4, .int .i64 c, .bool false, .bool false], .bool pad] (.tuple #[.string v1, .int .i64 e1]))
    (H2 : Fn 11 #[.int .i64 1, .agg #[.int .i64 4, .int .i64 c', .bool false, .bool false], .bool pad] (.tuple #[.string v2, .int .i64 e2]))
    (hv : Hid (e1 = 0 → e2 = 0 → ¬ v1.toList = [] → ¬ v1.toList = v2.toList)) (hne : (c == c') = false) :
    Fn 4 #[.bool false, .agg #[.int .i64 4, .int .i64 c, .bool s, .bool t, .int .i64 4, .int .i64 c', .bool s', .bool t'], .bool pad] (.bool true) := by
  intro w
  have HA := awake_any
  go_enter Try.func4, Try.ntmps4
  go_wp2_with fail
  refine (H1 _).mono ?_
  rintro e w1 ⟨rfl, hb1⟩
  have hz := hb1.size
  simp at hz
  obtain ⟨hc1, hf1⟩ := bcell hb1
  have hz0 : w.heap.size + 1 < w1.heap.size := by omega
  have hz1 : w.heap.size + 1 + 1 < w1.heap.size := by omega
  clear hz
  go_wp2_with fail
  refine (H2 _).mono ?_
  rintro e w2 ⟨rfl, hb2⟩
  obtain ⟨hc2, hf2⟩ := bcell hb2
  go_wp2_with (go_at_call 12; refine (HA _).mono ?_; rintro e w3 ⟨rfl, hb3⟩)
  all_goals go_ret
  all_goals first
    | exact ⟨rfl, by repeat (first | exact Below.refl _ _ | refine bel_alloc ?_ _ | refine bel_call ?_ hb3 | refine bel_call ?_ hb2 | refine bel_call ?_ hb1)⟩
    | exact ⟨ret_bool (show (!(v1.toList == v2.toList)) = true by simpa using ‹¬ v1.toList = v2.toList›), by repeat (first | exact Below.refl _ _ | refine bel_alloc ?_ _ | refine bel_call ?_ hb3 | refine bel_call ?_ hb2 | refine bel_call ?_ hb1)⟩
    | exact absurd ‹v1.toList = v2.toList› (hv.out ‹_› ‹_› ‹_›)
set_option maxHeartbeats 1000000 in
theorem diff_24_0 (c c' : Int) (s t s' t' pad : Bool) (v1 v2 : ByteArray) (e1 e2 : Int)
    (H1 : Fn 11 #[.int .i64 1, .agg #[.int .i64 2, .int .i64 c, .bool false, .bool false], .bool pad] (.tuple #[.string v1, .int .i64 e1]))
    (H2 : Fn 11 #[.int .i64 1, .agg #[.int .i64 4, .int .i64 c', .bool false, .bool false], .bool pad] (.tuple #[.string v2, .int .i64 e2]))
    (hv : Hid (e1 = 0 → e2 = 0 → ¬ v1.toList = [] → ¬ v1.toList = v2.toList)) :
    Fn 4 #[.bool false, .agg #[.int .i64 2, .int .i64 c, .bool s, .bool t, .int .i64 4, .int .i64 c', .bool s', .bool t'], .bool pad] (.bool true) := by
  intro w
  have HA := awake_any
  go_enter Try.func4, Try.ntmps4
  go_wp2_with fail
  refine (H1 _).mono ?_
  rintro e w1 ⟨rfl, hb1⟩
  have hz := hb1.size
  simp at hz
  obtain ⟨hc1, hf1⟩ := bcell hb1
  have hz0 : w.heap.size + 1 < w1.heap.size := by omega
  have hz1 : w.heap.size + 1 + 1 < w1.heap.size := by omega
  clear hz
  go_wp2_with fail
  refine (H2 _).mono ?_
  rintro e w2 ⟨rfl, hb2⟩
  obtain ⟨hc2, hf2⟩ := bcell hb2
  go_wp2_with (go_at_call 12; refine (HA _).mono ?_; rintro e w3 ⟨rfl, hb3⟩)
  all_goals go_ret
  all_goals first
    | exact ⟨rfl, by repeat (first | exact Below.refl _ _ | refine bel_alloc ?_ _ | refine bel_call ?_ hb3 | refine bel_call ?_ hb2 | refine bel_call ?_ hb1)⟩
    | exact ⟨ret_bool (show (!(v1.toList == v2.toList)) = true by simpa using ‹¬ v1.toList = v2.toList›), by repeat (first | exact Below.refl _ _ | refine bel_alloc ?_ _ | refine bel_call ?_ hb3 | refine bel_call ?_ hb2 | refine bel_call ?_ hb1)⟩
    | exact absurd ‹v1.toList = v2.toList› (hv.out ‹_› ‹_› ‹_›)
set_option maxHeartbeats 1000000 in
theorem diff_42_0 (c c' : Int) (s t s' t' pad : Bool) (v1 v2 : ByteArray) (e1 e2 : Int)
    (H1 : Fn 11 #[.int .i64 1, .agg #[.int .i64 4, .int .i64 c, .bool false, .bool false], .bool pad] (.tuple #[.string v1, .int .i64 e1]))
    (H2 : Fn 11 #[.int .i64 1, .agg #[.int .i64 2, .int .i64 c', .bool false, .bool false], .bool pad] (.tuple #[.string v2, .int .i64 e2]))
    (hv : Hid (e1 = 0 → e2 = 0 → ¬ v1.toList = [] → ¬ v1.toList = v2.toList)) :
    Fn 4 #[.bool false, .agg #[.int .i64 4, .int .i64 c, .bool s, .bool t, .int .i64 2, .int .i64 c', .bool s', .bool t'], .bool pad] (.bool true) := by
  intro w
  have HA := awake_any
  go_enter Try.func4, Try.ntmps4
  go_wp2_with fail
  refine (H1 _).mono ?_
  rintro e w1 ⟨rfl, hb1⟩
  have hz := hb1.size
  simp at hz
  obtain ⟨hc1, hf1⟩ := bcell hb1
  have hz0 : w.heap.size + 1 < w1.heap.size := by omega
  have hz1 : w.heap.size + 1 + 1 < w1.heap.size := by omega
  clear hz
  go_wp2_with fail
  refine (H2 _).mono ?_
  rintro e w2 ⟨rfl, hb2⟩
  obtain ⟨hc2, hf2⟩ := bcell hb2
  go_wp2_with (go_at_call 12; refine (HA _).mono ?_; rintro e w3 ⟨rfl, hb3⟩)
  all_goals go_ret
  all_goals first
    | exact ⟨rfl, by repeat (first | exact Below.refl _ _ | refine bel_alloc ?_ _ | refine bel_call ?_ hb3 | refine bel_call ?_ hb2 | refine bel_call ?_ hb1)⟩
    | exact ⟨ret_bool (show (!(v1.toList == v2.toList)) = true by simpa using ‹¬ v1.toList = v2.toList›), by repeat (first | exact Below.refl _ _ | refine bel_alloc ?_ _ | refine bel_call ?_ hb3 | refine bel_call ?_ hb2 | refine bel_call ?_ hb1)⟩
    | exact absurd ‹v1.toList = v2.toList› (hv.out ‹_› ‹_› ‹_›)
set_option maxHeartbeats 1000000 in
theorem same_2_1 (c : Int) (s t s' t' pad : Bool) (v1 : ByteArray) (e1 : Int)
    (H1 : Fn 11 #[.int .i64 2, .agg #[.int .i64 2, .int .i64 c, .bool false, .bool false], .bool pad] (.tuple #[.string v1, .int .i64 e1])) :
    Fn 4 #[.bool true, .agg #[.int .i64 2, .int .i64 c, .bool s, .bool t, .int .i64 2, .int .i64 c, .bool s', .bool t'], .bool pad] (.bool true) := by
  intro w
  have HA := awake_any
  go_enter Try.func4, Try.ntmps4
  go_wp2_with fail
  refine (H1 _).mono ?_
  rintro e w1 ⟨rfl, hb1⟩
  have hz := hb1.size
  simp at hz
  obtain ⟨hc1, hf1⟩ := bcell hb1
  have hz0 : w.heap.size + 1 < w1.heap.size := by omega
  have hz1 : w.heap.size + 1 + 1 < w1.heap.size := by omega
  clear hz
  go_wp2_with fail
  refine (H1 _).mono ?_
  rintro e w2 ⟨rfl, hb2⟩
  obtain ⟨hc2, hf2⟩ := bcell hb2
  go_wp2_with (go_at_call 12; refine (HA _).mono ?_; rintro e w3 ⟨rfl, hb3⟩)
  all_goals go_ret
  all_goals exact ⟨rfl, by repeat (first | exact Below.refl _ _ | refine bel_alloc ?_ _ | refine bel_call ?_ hb3 | refine bel_call ?_ hb2 | refine bel_call ?_ hb1)⟩
set_option maxHeartbeats 1000000 in
theorem same_3_1 (c : Int) (s t s' t' pad : Bool) (v1 : ByteArray) (e1 : Int)
    (H1 : Fn 11 #[.int .i64 2, .agg #[.int .i64 3, .int .i64 c, .bool false, .bool false], .bool pad] (.tuple #[.string v1, .int .i64 e1])) :
    Fn 4 #[.bool true, .agg #[.int .i64 3, .int .i64 c, .bool s, .bool t, .int .i64 3, .int .i64 c, .bool s', .bool t'], .bool pad] (.bool true) := by
  intro w
  have HA := awake_any
  go_enter Try.func4, Try.ntmps4
  go_wp2_with fail
  refine (H1 _).mono ?_
  rintro e w1 ⟨rfl, hb1⟩
  have hz := hb1.size
  simp at hz
  obtain ⟨hc1, hf1⟩ := bcell hb1
  have hz0 : w.heap.size + 1 < w1.heap.size := by omega
  have hz1 : w.heap.size + 1 + 1 < w1.heap.size := by omega
  clear hz
  go_wp2_with fail
  refine (H1 _).mono ?_
  rintro e w2 ⟨rfl, hb2⟩
  obtain ⟨hc2, hf2⟩ := bcell hb2
  go_wp2_with (go_at_call 12; refine (HA _).mono ?_; rintro e w3 ⟨rfl, hb3⟩)
  all_goals go_ret
  all_goals exact ⟨rfl, by repeat (first | exact Below.refl _ _ | refine bel_alloc ?_ _ | refine bel_call ?_ hb3 | refine bel_call ?_ hb2 | refine bel_call ?_ hb1)⟩
set_option maxHeartbeats 1000000 in
theorem same_4_1 (c : Int) (s t s' t' pad : Bool) (v1 : ByteArray) (e1 : Int)
    (H1 : Fn 11 #[.int .i64 2, .agg #[.int .i64 4, .int .i64 c, .bool false, .bool false], .bool pad] (.tuple #[.string v1, .int .i64 e1])) :
    Fn 4 #[.bool true, .agg #[.int .i64 4, .int .i64 c, .bool s, .bool t, .int .i64 4, .int .i64 c, .bool s', .bool t'], .bool pad] (.bool true) := by
  intro w
  have HA := awake_any
  go_enter Try.func4, Try.ntmps4
  go_wp2_with fail
  refine (H1 _).mono ?_
  rintro e w1 ⟨rfl, hb1⟩
  have hz := hb1.size
  simp at hz
  obtain ⟨hc1, hf1⟩ := bcell hb1
  have hz0 : w.heap.size + 1 < w1.heap.size := by omega
  have hz1 : w.heap.size + 1 + 1 < w1.heap.size := by omega
  clear hz
  go_wp2_with fail
  refine (H1 _).mono ?_
  rintro e w2 ⟨rfl, hb2⟩
  obtain ⟨hc2, hf2⟩ := bcell hb2
  go_wp2_with (go_at_call 12; refine (HA _).mono ?_; rintro e w3 ⟨rfl, hb3⟩)
  all_goals go_ret
  all_goals exact ⟨rfl, by repeat (first | exact Below.refl _ _ | refine bel_alloc ?_ _ | refine bel_call ?_ hb3 | refine bel_call ?_ hb2 | refine bel_call ?_ hb1)⟩
set_option maxHeartbeats 1000000 in
theorem diff_22_1 (c c' : Int) (s t s' t' pad : Bool) (v1 v2 : ByteArray) (e1 e2 : Int)
    (H1 : Fn 11 #[.int .i64 2, .agg #[.int .i64 2, .int .i64 c, .bool false, .bool false], .bool pad] (.tuple #[.string v1, .int .i64 e1]))
    (H2 : Fn 11 #[.int .i64 2, .agg #[.int .i64 2, .int .i64 c', .bool false, .bool false], .bool pad] (.tuple #[.string v2, .int .i64 e2]))
    (hv : Hid (e1 = 0 → e2 = 0 → ¬ v1.toList = [] → ¬ v1.toList = v2.toList)) (hne : (c == c') = false) :
    Fn 4 #[.bool true, .agg #[.int .i64 2, .int .i64 c, .bool s, .bool t, .int .i64 2, .int .i64 c', .bool s', .bool t'], .bool pad] (.bool true) := by
  intro w
  have HA := awake_any
  go_enter Try.func4, Try.ntmps4
  go_wp2_with fail
  refine (H1 _).mono ?_
  rintro e w1 ⟨rfl, hb1⟩
  have hz := hb1.size
  simp at hz
  obtain ⟨hc1, hf1⟩ := bcell hb1
  have hz0 : w.heap.size + 1 < w1.heap.size := by omega
  have hz1 : w.heap.size + 1 + 1 < w1.heap.size := by omega
  clear hz
  go_wp2_with fail
  refine (H2 _).mono ?_
  rintro e w2 ⟨rfl, hb2⟩
  obtain ⟨hc2, hf2⟩ := bcell hb2
  go_wp2_with (go_at_call 12; refine (HA _).mono ?_; rintro e w3 ⟨rfl, hb3⟩)
  all_goals go_ret
  all_goals first
    | exact ⟨rfl, by repeat (first | exact Below.refl _ _ | refine bel_alloc ?_ _ | refine bel_call ?_ hb3 | refine bel_call ?_ hb2 | refine bel_call ?_ hb1)⟩
    | exact ⟨ret_bool (show (!(v1.toList == v2.toList)) = true by simpa using ‹¬ v1.toList = v2.toList›), by repeat (first | exact Below.refl _ _ | refine bel_alloc ?_ _ | refine bel_call ?_ hb3 | refine bel_call ?_ hb2 | refine bel_call ?_ hb1)⟩
    | exact absurd ‹v1.toList = v2.toList› (hv.out ‹_› ‹_› ‹_›)
set_option maxHeartbeats 1000000 in
theorem diff_33_1 (c c' : Int) (s t s' t' pad : Bool) (v1 v2 : ByteArray) (e1 e2 : Int)
    (H1 : Fn 11 #[.int .i64 2, .agg #[.int .i64 3, .int .i64 c, .bool false, .bool false], .bool pad] (.tuple #[.string v1, .int .i64 e1]))
    (H2 : Fn 11 #[.int .i64 2, .agg #[.int .i64 3, .int .i64 c', .bool false, .bool false], .bool pad] (.tuple #[.string v2, .int .i64 e2]))
    (hv : Hid (e1 = 0 → e2 = 0 → ¬ v1.toList = [] → ¬ v1.toList = v2.toList)) (hne : (c == c') = false) :
    Fn 4 #[.bool true, .agg #[.int .i64 3, .int .i64 c, .bool s, .bool t, .int .i64 3, .int .i64 c', .bool s', .bool t'], .bool pad] (.bool true) := by
  intro w
  have HA := awake_any
  go_enter Try.func4, Try.ntmps4
  go_wp2_with fail
  refine (H1 _).mono ?_
  rintro e w1 ⟨rfl, hb1⟩
  have hz := hb1.size
  simp at hz
  obtain ⟨hc1, hf1⟩ := bcell hb1
  have hz0 : w.heap.size + 1 < w1.heap.size := by omega
  have hz1 : w.heap.size + 1 + 1 < w1.heap.size := by omega
  clear hz
  go_wp2_with fail
  refine (H2 _).mono ?_
  rintro e w2 ⟨rfl, hb2⟩
  obtain ⟨hc2, hf2⟩ := bcell hb2
  go_wp2_with (go_at_call 12; refine (HA _).mono ?_; rintro e w3 ⟨rfl, hb3⟩)
  all_goals go_ret
  all_goals first
    | exact ⟨rfl, by repeat (first | exact Below.refl _ _ | refine bel_alloc ?_ _ | refine bel_call ?_ hb3 | refine bel_call ?_ hb2 | refine bel_call ?_ hb1)⟩
    | exact ⟨ret_bool (show (!(v1.toList == v2.toList)) = true by simpa using ‹¬ v1.toList = v2.toList›), by repeat (first | exact Below.refl _ _ | refine bel_alloc ?_ _ | refine bel_call ?_ hb3 | refine bel_call ?_ hb2 | refine bel_call ?_ hb1)⟩
    | exact absurd ‹v1.toList = v2.toList› (hv.out ‹_› ‹_› ‹_›)
set_option maxHeartbeats 1000000 in
theorem diff_44_1 (c c' : Int) (s t s' t' pad : Bool) (v1 v2 : ByteArray) (e1 e2 : Int)
    (H1 : Fn 11 #[.int .i64 2, .agg #[.int .i64 4, .int .i64 c, .bool false, .bool false], .bool pad] (.tuple #[.string v1, .int .i64 e1]))
    (H2 : Fn 11 #[.int .i64 2, .agg #[.int .i64 4, .int .i64 c', .bool false, .bool false], .bool pad] (.tuple #[.string v2, .int .i64 e2]))
    (hv : Hid (e1 = 0 → e2 = 0 → ¬ v1.toList = [] → ¬ v1.toList = v2.toList)) (hne : (c == c') = false) :
    Fn 4 #[.bool true, .agg #[.int .i64 4, .int .i64 c, .bool s, .bool t, .int .i64 4, .int .i64 c', .bool s', .bool t'], .bool pad] (.bool true) := by
  intro w
  have HA := awake_any
  go_enter Try.func4, Try.ntmps4
  go_wp2_with fail
  refine (H1 _).mono ?_
  rintro e w1 ⟨rfl, hb1⟩
  have hz := hb1.size
  simp at hz
  obtain ⟨hc1, hf1⟩ := bcell hb1
  have hz0 : w.heap.size + 1 < w1.heap.size := by omega
  have hz1 : w.heap.size + 1 + 1 < w1.heap.size := by omega
  clear hz
  go_wp2_with fail
  refine (H2 _).mono ?_
  rintro e w2 ⟨rfl, hb2⟩
  obtain ⟨hc2, hf2⟩ := bcell hb2
  go_wp2_with (go_at_call 12; refine (HA _).mono ?_; rintro e w3 ⟨rfl, hb3⟩)
  all_goals go_ret
  all_goals first
    | exact ⟨rfl, by repeat (first | exact Below.refl _ _ | refine bel_alloc ?_ _ | refine bel_call ?_ hb3 | refine bel_call ?_ hb2 | refine bel_call ?_ hb1)⟩
    | exact ⟨ret_bool (show (!(v1.toList == v2.toList)) = true by simpa using ‹¬ v1.toList = v2.toList›), by repeat (first | exact Below.refl _ _ | refine bel_alloc ?_ _ | refine bel_call ?_ hb3 | refine bel_call ?_ hb2 | refine bel_call ?_ hb1)⟩
    | exact absurd ‹v1.toList = v2.toList› (hv.out ‹_› ‹_› ‹_›)
set_option maxHeartbeats 1000000 in
theorem diff_24_1 (c c' : Int) (s t s' t' pad : Bool) (v1 v2 : ByteArray) (e1 e2 : Int)
    (H1 : Fn 11 #[.int .i64 2, .agg #[.int .i64 2, .int .i64 c, .bool false, .bool false], .bool pad] (.tuple #[.string v1, .int .i64 e1]))
    (H2 : Fn 11 #[.int .i64 2, .agg #[.int .i64 4, .int .i64 c', .bool false, .bool false], .bool pad] (.tuple #[.string v2, .int .i64 e2]))
    (hv : Hid (e1 = 0 → e2 = 0 → ¬ v1.toList = [] → ¬ v1.toList = v2.toList)) :
    Fn 4 #[.bool true, .agg #[.int .i64 2, .int .i64 c, .bool s, .bool t, .int .i64 4, .int .i64 c', .bool s', .bool t'], .bool pad] (.bool true) := by
  intro w
  have HA := awake_any
  go_enter Try.func4, Try.ntmps4
  go_wp2_with fail
  refine (H1 _).mono ?_
  rintro e w1 ⟨rfl, hb1⟩
  have hz := hb1.size
  simp at hz
  obtain ⟨hc1, hf1⟩ := bcell hb1
  have hz0 : w.heap.size + 1 < w1.heap.size := by omega
  have hz1 : w.heap.size + 1 + 1 < w1.heap.size := by omega
  clear hz
  go_wp2_with fail
  refine (H2 _).mono ?_
  rintro e w2 ⟨rfl, hb2⟩
  obtain ⟨hc2, hf2⟩ := bcell hb2
  go_wp2_with (go_at_call 12; refine (HA _).mono ?_; rintro e w3 ⟨rfl, hb3⟩)
  all_goals go_ret
  all_goals first
    | exact ⟨rfl, by repeat (first | exact Below.refl _ _ | refine bel_alloc ?_ _ | refine bel_call ?_ hb3 | refine bel_call ?_ hb2 | refine bel_call ?_ hb1)⟩
    | exact ⟨ret_bool (show (!(v1.toList == v2.toList)) = true by simpa using ‹¬ v1.toList = v2.toList›), by repeat (first | exact Below.refl _ _ | refine bel_alloc ?_ _ | refine bel_call ?_ hb3 | refine bel_call ?_ hb2 | refine bel_call ?_ hb1)⟩
    | exact absurd ‹v1.toList = v2.toList› (hv.out ‹_› ‹_› ‹_›)
set_option maxHeartbeats 1000000 in
theorem diff_42_1 (c c' : Int) (s t s' t' pad : Bool) (v1 v2 : ByteArray) (e1 e2 : Int)
    (H1 : Fn 11 #[.int .i64 2, .agg #[.int .i64 4, .int .i64 c, .bool false, .bool false], .bool pad] (.tuple #[.string v1, .int .i64 e1]))
    (H2 : Fn 11 #[.int .i64 2, .agg #[.int .i64 2, .int .i64 c', .bool false, .bool false], .bool pad] (.tuple #[.string v2, .int .i64 e2]))
    (hv : Hid (e1 = 0 → e2 = 0 → ¬ v1.toList = [] → ¬ v1.toList = v2.toList)) :
    Fn 4 #[.bool true, .agg #[.int .i64 4, .int .i64 c, .bool s, .bool t, .int .i64 2, .int .i64 c', .bool s', .bool t'], .bool pad] (.bool true) := by
  intro w
  have HA := awake_any
  go_enter Try.func4, Try.ntmps4
  go_wp2_with fail
  refine (H1 _).mono ?_
  rintro e w1 ⟨rfl, hb1⟩
  have hz := hb1.size
  simp at hz
  obtain ⟨hc1, hf1⟩ := bcell hb1
  have hz0 : w.heap.size + 1 < w1.heap.size := by omega
  have hz1 : w.heap.size + 1 + 1 < w1.heap.size := by omega
  clear hz
  go_wp2_with fail
  refine (H2 _).mono ?_
  rintro e w2 ⟨rfl, hb2⟩
  obtain ⟨hc2, hf2⟩ := bcell hb2
  go_wp2_with (go_at_call 12; refine (HA _).mono ?_; rintro e w3 ⟨rfl, hb3⟩)
  all_goals go_ret
  all_goals first
    | exact ⟨rfl, by repeat (first | exact Below.refl _ _ | refine bel_alloc ?_ _ | refine bel_call ?_ hb3 | refine bel_call ?_ hb2 | refine bel_call ?_ hb1)⟩
    | exact ⟨ret_bool (show (!(v1.toList == v2.toList)) = true by simpa using ‹¬ v1.toList = v2.toList›), by repeat (first | exact Below.refl _ _ | refine bel_alloc ?_ _ | refine bel_call ?_ hb3 | refine bel_call ?_ hb2 | refine bel_call ?_ hb1)⟩
    | exact absurd ‹v1.toList = v2.toList› (hv.out ‹_› ‹_› ‹_›)
end Go.Proofs.Ytkenihkfjepdfaa
