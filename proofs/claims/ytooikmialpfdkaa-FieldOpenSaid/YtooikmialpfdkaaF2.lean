/- The contracts of there, There, number. -/
import Derived.Test.YtooikmialpfdkaaF1
namespace Go.Proofs.Ytooikmialpfdkaa
open Go.RowKit
set_option linter.unusedVariables false

/-- Is a place there? (of rows that may be) -/
def Grid.thereP (G : Grid) (r c : Int) : Prop := 0 ≤ r ∧ r < G.n ∧ 0 ≤ c ∧ c < G.len 0
instance (G : Grid) (r c : Int) : Decidable (G.thereP r c) := by unfold Grid.thereP; infer_instance
def Grid.thereB (G : Grid) (r c : Int) : Bool := decide (G.thereP r c)
theorem thereB_iff {G : Grid} {r c : Int} : G.thereB r c = true ↔ G.thereP r c := by simp [Grid.thereB]
set_option maxHeartbeats 1000000 in
theorem there_0 (G : Grid) (r c : Int) (w : World) (h : G.In w.heap.size w) (hn : 0 < G.n) (h0 : ¬ (0 : Int) ≤ r) : Fn w 26 #[G.v, .agg #[.int .i64 r, .int .i64 c]] (.bool false) := by
  have hbig := h.big
  unfold Fn
  obtain ⟨b, off, ea, hb, hc⟩ := h.rows hn
  have c0 := hc 0 hn
  simp only [Nat.add_zero] at c0
  have l0 := h.lens 0 hn
  have q0 : (0 : Int) < (G.n : Int) := by omega
  clear hc h
  have d0 : decide ((0 : Int) ≤ r) = false := by simpa using h0
  unfold Grid.v
  rw [ea]
  clear ea
  go_enter Try.func26, Try.ntmps26
  go_wp2_with fail
  go_quiet (fail)
  go_wp2
  go_ret
  exact ⟨rfl, by repeat (first | exact Below.refl _ _ | refine bel_alloc ?_ _ | refine bel_drewN ?_ _)⟩
set_option maxHeartbeats 1000000 in
theorem there_1 (G : Grid) (r c : Int) (w : World) (h : G.In w.heap.size w) (hn : 0 < G.n) (h0 : (0 : Int) ≤ r) (h1 : ¬ r < (G.n : Int)) : Fn w 26 #[G.v, .agg #[.int .i64 r, .int .i64 c]] (.bool false) := by
  have hbig := h.big
  unfold Fn
  obtain ⟨b, off, ea, hb, hc⟩ := h.rows hn
  have c0 := hc 0 hn
  simp only [Nat.add_zero] at c0
  have l0 := h.lens 0 hn
  have q0 : (0 : Int) < (G.n : Int) := by omega
  clear hc h
  have d0 : decide ((0 : Int) ≤ r) = true := by simpa using h0
  have d1 : decide (r < (G.n : Int)) = false := by simpa using h1
  unfold Grid.v
  rw [ea]
  clear ea
  go_enter Try.func26, Try.ntmps26
  go_wp2_with fail
  go_quiet (fail)
  go_wp2
  go_ret
  exact ⟨rfl, by repeat (first | exact Below.refl _ _ | refine bel_alloc ?_ _ | refine bel_drewN ?_ _)⟩
set_option maxHeartbeats 1000000 in
theorem there_2 (G : Grid) (r c : Int) (w : World) (h : G.In w.heap.size w) (hn : 0 < G.n) (h0 : (0 : Int) ≤ r) (h1 : r < (G.n : Int)) (h2 : ¬ (0 : Int) ≤ c) : Fn w 26 #[G.v, .agg #[.int .i64 r, .int .i64 c]] (.bool false) := by
  have hbig := h.big
  unfold Fn
  obtain ⟨b, off, ea, hb, hc⟩ := h.rows hn
  have c0 := hc 0 hn
  simp only [Nat.add_zero] at c0
  have l0 := h.lens 0 hn
  have q0 : (0 : Int) < (G.n : Int) := by omega
  clear hc h
  have d0 : decide ((0 : Int) ≤ r) = true := by simpa using h0
  have d1 : decide (r < (G.n : Int)) = true := by simpa using h1
  have d2 : decide ((0 : Int) ≤ c) = false := by simpa using h2
  unfold Grid.v
  rw [ea]
  clear ea
  go_enter Try.func26, Try.ntmps26
  go_wp2_with fail
  go_quiet (fail)
  go_wp2
  go_ret
  exact ⟨rfl, by repeat (first | exact Below.refl _ _ | refine bel_alloc ?_ _ | refine bel_drewN ?_ _)⟩
set_option maxHeartbeats 1000000 in
theorem there_3 (G : Grid) (r c : Int) (w : World) (h : G.In w.heap.size w) (hn : 0 < G.n) (h0 : (0 : Int) ≤ r) (h1 : r < (G.n : Int)) (h2 : (0 : Int) ≤ c) (h3 : ¬ c < (G.len 0 : Int)) : Fn w 26 #[G.v, .agg #[.int .i64 r, .int .i64 c]] (.bool false) := by
  have hbig := h.big
  unfold Fn
  obtain ⟨b, off, ea, hb, hc⟩ := h.rows hn
  have c0 := hc 0 hn
  simp only [Nat.add_zero] at c0
  have l0 := h.lens 0 hn
  have q0 : (0 : Int) < (G.n : Int) := by omega
  clear hc h
  have d0 : decide ((0 : Int) ≤ r) = true := by simpa using h0
  have d1 : decide (r < (G.n : Int)) = true := by simpa using h1
  have d2 : decide ((0 : Int) ≤ c) = true := by simpa using h2
  have d3 : decide (c < (G.len 0 : Int)) = false := by simpa using h3
  unfold Grid.v
  rw [ea]
  clear ea
  go_enter Try.func26, Try.ntmps26
  go_wp2_with fail
  go_quiet (fail)
  go_wp2
  go_ret
  exact ⟨rfl, by repeat (first | exact Below.refl _ _ | refine bel_alloc ?_ _ | refine bel_drewN ?_ _)⟩
set_option maxHeartbeats 1000000 in
theorem there_4 (G : Grid) (r c : Int) (w : World) (h : G.In w.heap.size w) (hn : 0 < G.n) (h0 : (0 : Int) ≤ r) (h1 : r < (G.n : Int)) (h2 : (0 : Int) ≤ c) (h3 : c < (G.len 0 : Int)) : Fn w 26 #[G.v, .agg #[.int .i64 r, .int .i64 c]] (.bool true) := by
  have hbig := h.big
  unfold Fn
  obtain ⟨b, off, ea, hb, hc⟩ := h.rows hn
  have c0 := hc 0 hn
  simp only [Nat.add_zero] at c0
  have l0 := h.lens 0 hn
  have q0 : (0 : Int) < (G.n : Int) := by omega
  clear hc h
  have d0 : decide ((0 : Int) ≤ r) = true := by simpa using h0
  have d1 : decide (r < (G.n : Int)) = true := by simpa using h1
  have d2 : decide ((0 : Int) ≤ c) = true := by simpa using h2
  have d3 : decide (c < (G.len 0 : Int)) = true := by simpa using h3
  unfold Grid.v
  rw [ea]
  clear ea
  go_enter Try.func26, Try.ntmps26
  go_wp2_with fail
  go_quiet (fail)
  go_wp2
  go_ret
  exact ⟨rfl, by repeat (first | exact Below.refl _ _ | refine bel_alloc ?_ _ | refine bel_drewN ?_ _)⟩
theorem there_any (G : Grid) (r c : Int) (w : World) (h : G.In w.heap.size w) (hn : 0 < G.n) : Fn w 26 #[G.v, .agg #[.int .i64 r, .int .i64 c]] (.bool (G.thereB r c)) := by
  unfold Grid.thereB Grid.thereP
  by_cases h0 : (0 : Int) ≤ r
  · by_cases h1 : r < (G.n : Int)
    · by_cases h2 : (0 : Int) ≤ c
      · by_cases h3 : c < (G.len 0 : Int)
        · simpa [h0, h1, h2, h3] using there_4 G r c w h hn h0 h1 h2 h3
        · simpa [h0, h1, h2, h3] using there_3 G r c w h hn h0 h1 h2 h3
      · simpa [h0, h1, h2] using there_2 G r c w h hn h0 h1 h2
    · simpa [h0, h1] using there_1 G r c w h hn h0 h1
  · simpa [h0] using there_0 G r c w h hn h0
end Go.Proofs.Ytooikmialpfdkaa
