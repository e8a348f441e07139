/- The walk of the document's Send, where it sends nothing. -/
import Derived.Test.YtooikmialpfdkaaFG
namespace Go.Proofs.Ytooikmialpfdkaa
open Go.RowKit
set_option linter.unusedVariables false
set_option linter.unusedSimpArgs false
theorem rsend_size (G : Grid) (fr fc tr tc : Int) (w : World) (h : G.In w.heap.size w) (hok : ¬ G.Ok) :
    Fn w 16 #[G.v, posV fr fc, posV tr tc] (.tuple #[.string (strOfNums []), .int .i64 10]) := by
  have HC : ∀ W, Below w.heap.size w W → Fn W 17 #[G.v] (.bool false) := fun W hW => by
    have := right_any G W (h.later hW hW.size)
    rwa [not_okB hok] at this
  unfold Fn Grid.v posV at *
  have HC' := Lib.hid HC
  clear HC h hok
  go_enter Try.func16, Try.ntmps16
  go_wp2_with (go_at_call 17; refine (HC'.out _ (bel_alloc (bel_alloc (Below.refl _ _) _) _)).mono ?_; rintro e w1 ⟨rfl, hb1⟩)
  go_ret2
  exact ⟨rfl, bel_call (bel_alloc (bel_alloc (Below.refl _ _) _) _) hb1⟩
set_option maxRecDepth 100000 in
set_option maxHeartbeats 8000000 in
theorem rsend_range (G : Grid) (fr fc tr tc : Int) (w : World) (h : G.In w.heap.size w) (hok : G.Ok)
    (hb : G.thereB fr fc = false ∨ (G.thereB fr fc = true ∧ G.thereB tr tc = false) ∨ (G.thereB fr fc = true ∧ G.thereB tr tc = true ∧ (decide (tr < fr) = true ∨ (decide (tr < fr) = false ∧ (tr == fr) = true ∧ decide (tc < fc) = true)))) :
    Fn w 16 #[G.v, posV fr fc, posV tr tc] (.tuple #[.string (strOfNums []), .int .i64 11]) := by
  have HC : ∀ W, Below w.heap.size w W → Fn W 17 #[G.v] (.bool true) := fun W hW => by
    have := right_any G W (h.later hW hW.size)
    rwa [okB_yes hok] at this
  have HT : ∀ W, Below w.heap.size w W → ∀ r c, Fn W 10 #[G.v, .agg #[.int .i64 r, .int .i64 c]] (.bool (G.thereB r c)) := fun W hW r c => by
    have := rthere_any G r c W (h.later hW hW.size)
    rwa [okB_yes hok, Bool.true_and] at this
  unfold Fn Grid.v posV at *
  have HC' := Lib.hid HC
  have HT' := Lib.hid HT
  clear HC HT h hok
  go_enter Try.func16, Try.ntmps16
  go_wp2_with fail
  refine (HC'.out _ (bel_alloc (bel_alloc (Below.refl _ _) _) _)).mono ?_
  rintro e w1 ⟨rfl, hb1⟩
  have B1 : Below w.heap.size w w1 := bel_call (bel_alloc (bel_alloc (Below.refl _ _) _) _) hb1
  have hz := hb1.size
  simp at hz
  have k0 := hb1.cell (p := ⟨w.heap.size, 0, none⟩) (by simp; omega)
  have k1 := hb1.cell (p := ⟨w.heap.size, 1, none⟩) (by simp; omega)
  have k2 := hb1.cell (p := ⟨w.heap.size + 1, 0, none⟩) (by simp)
  have k3 := hb1.cell (p := ⟨w.heap.size + 1, 1, none⟩) (by simp)
  simp [go_sem] at k0 k1 k2 k3
  have hz1 : w.heap.size + 1 < w1.heap.size := by omega
  clear hz hb1 HC'
  go_wp2_with fail
  refine (HT'.out _ B1 _ _).mono ?_
  rintro e w2 ⟨rfl, hb2⟩
  have B2 := bel_call B1 hb2
  have k0' := (hb2.cell (p := ⟨w.heap.size, 0, none⟩) (by simp; omega)).trans k0
  have k1' := (hb2.cell (p := ⟨w.heap.size, 1, none⟩) (by simp; omega)).trans k1
  have k2' := (hb2.cell (p := ⟨w.heap.size + 1, 0, none⟩) hz1).trans k2
  have k3' := (hb2.cell (p := ⟨w.heap.size + 1, 1, none⟩) hz1).trans k3
  have hz2 : w.heap.size + 1 < w2.heap.size := by have := hb2.size; omega
  clear k0 k1 k2 k3 hb2
  rcases hb with bf | ⟨bf, bt⟩ | ⟨bf, bt, h1⟩
  · go_wp2_with fail
    go_ret2
    exact ⟨rfl, B2⟩
  all_goals (
    go_wp2_with fail
    refine (HT'.out _ B2 _ _).mono ?_
    rintro e w3 ⟨rfl, hb3⟩
    have B3 := bel_call B2 hb3
    have k0 := (hb3.cell (p := ⟨w.heap.size, 0, none⟩) (by simp; omega)).trans k0'
    have k1 := (hb3.cell (p := ⟨w.heap.size, 1, none⟩) (by simp; omega)).trans k1'
    have k2 := (hb3.cell (p := ⟨w.heap.size + 1, 0, none⟩) hz2).trans k2'
    have k3 := (hb3.cell (p := ⟨w.heap.size + 1, 1, none⟩) hz2).trans k3'
    clear k0' k1' k2' k3' hb3)
  · go_wp2_with fail
    go_ret2
    exact ⟨rfl, B3⟩
  · rcases h1 with h1 | ⟨h1, h2, h3⟩
    · go_wp2_with fail
      go_ret2
      exact ⟨rfl, B3⟩
    · go_wp2_with fail
      go_ret2
      exact ⟨rfl, B3⟩
end Go.Proofs.Ytooikmialpfdkaa
