/- The walk of FieldParts. -/
import Derived.Test.YtooikmialpfdkaaF9
import Derived.Test.YtooikmialpfdkaaL1
namespace Go.Proofs.Ytooikmialpfdkaa
open Go.RowKit
set_option linter.unusedVariables false
set_option maxRecDepth 100000
set_option maxHeartbeats 4000000

theorem parts_few (G : Grid) (r c : Int) (W : World) (h : G.In W.heap.size W) (hf : ¬ G.Few) :
    Fn W 3 #[G.v, .agg #[.int .i64 r, .int .i64 c]] (.bool true) := by
  have HF : ∀ w, Below W.heap.size W w → Fn w 9 #[G.v] (.bool false) := fun w hw => by
    have := few_any G w (h.later hw hw.size)
    rwa [not_fewB hf] at this
  have HA : ∀ w, Fn w 11 #[] (.bool true) := awake_any
  unfold Fn at *
  unfold Grid.v at *
  have HF' := Lib.hid HF
  have HA' := Lib.hid HA
  clear HF HA h hf
  go_enter Try.func3, Try.ntmps3
  go_wp2_with fail
  refine (HF'.out _ (by repeat (first | exact Below.refl _ _ | refine bel_alloc ?_ _))).mono ?_
  rintro e w1 ⟨rfl, hb1⟩
  go_wp2_with fail
  refine (HA'.out _).mono ?_
  rintro e w2 ⟨rfl, hb2⟩
  go_wp2
  go_ret
  exact ⟨rfl, by repeat (first | exact Below.refl _ _ | refine bel_alloc ?_ _ | refine bel_call ?_ hb2 | refine bel_call ?_ hb1)⟩

theorem parts_first (G : Grid) (r c : Int) (W : World) (h : G.In W.heap.size W) (hf : G.Few) (hp : (G.okB && G.thereB r c) = false) :
    Fn W 3 #[G.v, .agg #[.int .i64 r, .int .i64 c]] (.bool true) := by
  have HF : ∀ w, Below W.heap.size W w → Fn w 9 #[G.v] (.bool true) := fun w hw => by
    have := few_any G w (h.later hw hw.size)
    rwa [fewB_yes hf] at this
  have HT : ∀ w, Below W.heap.size W w → Fn w 10 #[G.v, .agg #[.int .i64 r, .int .i64 c]] (.bool false) := fun w hw => by
    have := rthere_any G r c w (h.later hw hw.size)
    rwa [hp] at this
  have HA : ∀ w, Fn w 11 #[] (.bool true) := awake_any
  unfold Fn at *
  unfold Grid.v at *
  have HF' := Lib.hid HF
  have HA' := Lib.hid HA
  have HT' := Lib.hid HT
  clear HF HA HT h hf hp
  go_enter Try.func3, Try.ntmps3
  go_wp2_with fail
  refine (HF'.out _ (by repeat (first | exact Below.refl _ _ | refine bel_alloc ?_ _))).mono ?_
  rintro e w1 ⟨rfl, hb1⟩
  have k0 := hb1.cell (p := ⟨W.heap.size, 0, none⟩) (by simp; omega)
  have k1 := hb1.cell (p := ⟨W.heap.size, 1, none⟩) (by simp; omega)
  simp [go_sem] at k0 k1
  go_wp2_with fail
  refine (HT'.out _ (by repeat (first | exact Below.refl _ _ | refine bel_alloc ?_ _ | refine bel_call ?_ hb1))).mono ?_
  rintro e w2 ⟨rfl, hb2⟩
  go_wp2_with fail
  refine (HA'.out _).mono ?_
  rintro e w3 ⟨rfl, hb3⟩
  go_wp2
  go_ret
  exact ⟨rfl, by repeat (first | exact Below.refl _ _ | refine bel_alloc ?_ _ | refine bel_call ?_ hb3 | refine bel_call ?_ hb2 | refine bel_call ?_ hb1)⟩

theorem parts_second (G : Grid) (r c : Int) (h0 : -9223372036854775808 ≤ c) (h1 : c + 1 ≤ 9223372036854775807) (W : World) (h : G.In W.heap.size W) (hf : G.Few) (hp : (G.okB && G.thereB r c) = true) (hq : (G.okB && G.thereB r (c + 1)) = false) :
    Fn W 3 #[G.v, .agg #[.int .i64 r, .int .i64 c]] (.bool true) := by
  have HF : ∀ w, Below W.heap.size W w → Fn w 9 #[G.v] (.bool true) := fun w hw => by
    have := few_any G w (h.later hw hw.size)
    rwa [fewB_yes hf] at this
  have HT : ∀ w, Below W.heap.size W w → Fn w 10 #[G.v, .agg #[.int .i64 r, .int .i64 c]] (.bool true) := fun w hw => by
    have := rthere_any G r c w (h.later hw hw.size)
    rwa [hp] at this
  have HQ : ∀ w, Below W.heap.size W w → Fn w 10 #[G.v, .agg #[.int .i64 r, .int .i64 (c + 1)]] (.bool false) := fun w hw => by
    have := rthere_any G r (c + 1) w (h.later hw hw.size)
    rwa [hq] at this
  have HA : ∀ w, Fn w 11 #[] (.bool true) := awake_any
  unfold Fn at *
  unfold Grid.v at *
  have HF' := Lib.hid HF
  have HA' := Lib.hid HA
  have HT' := Lib.hid HT
  have HQ' := Lib.hid HQ
  clear HF HA HT HQ h hf hp hq
  go_enter Try.func3, Try.ntmps3
  go_wp2_with fail
  refine (HF'.out _ (by repeat (first | exact Below.refl _ _ | refine bel_alloc ?_ _))).mono ?_
  rintro e w1 ⟨rfl, hb1⟩
  have k0 := hb1.cell (p := ⟨W.heap.size, 0, none⟩) (by simp; omega)
  have k1 := hb1.cell (p := ⟨W.heap.size, 1, none⟩) (by simp; omega)
  have k2 := hb1.cell (p := ⟨W.heap.size + 1, 0, none⟩) (by simp)
  have k3 := hb1.cell (p := ⟨W.heap.size + 1, 1, none⟩) (by simp)
  simp [go_sem] at k0 k1 k2 k3
  have hz : W.heap.size + 1 < w1.heap.size := by have := hb1.size; simp at this; omega
  go_wp2_with fail
  refine (HT'.out _ (by repeat (first | exact Below.refl _ _ | refine bel_alloc ?_ _ | refine bel_call ?_ hb1))).mono ?_
  rintro e w2 ⟨rfl, hb2⟩
  have q2 := (hb2.cell (p := ⟨W.heap.size + 1, 0, none⟩) hz).trans k2
  have q3 := (hb2.cell (p := ⟨W.heap.size + 1, 1, none⟩) hz).trans k3
  go_wp2_with fail
  refine (HQ'.out _ (by repeat (first | exact Below.refl _ _ | refine bel_alloc ?_ _ | refine bel_call ?_ hb2 | refine bel_call ?_ hb1))).mono ?_
  rintro e w3 ⟨rfl, hb3⟩
  go_wp2_with fail
  refine (HA'.out _).mono ?_
  rintro e w4 ⟨rfl, hb4⟩
  go_wp2
  go_ret
  exact ⟨rfl, by repeat (first | exact Below.refl _ _ | refine bel_alloc ?_ _ | refine bel_call ?_ hb4 | refine bel_call ?_ hb3 | refine bel_call ?_ hb2 | refine bel_call ?_ hb1)⟩
end Go.Proofs.Ytooikmialpfdkaa
