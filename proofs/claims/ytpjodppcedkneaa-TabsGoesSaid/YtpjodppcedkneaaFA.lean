/- Two ints, as an argument is read. -/
import Derived.Test.YtpjodppcedkneaaFO
namespace Go.Proofs.Ytpjodppcedkneaa
open Go.Deep
open Go.ChangeShapes Go.WideShapes Go.ChangeAt Go.RowKit Go.Joins
variable {H : Type} {enc : TypeId × Value → H} {P : Program} {w : World} {base : Nat} {spare : Nat → Bool} {held : Bool}
theorem two_of {α : Type} {l : List α} (h : l.length = 2) : ∃ a b, l = [a, b] := by
  match l, h with
  | [a, b], _ => exact ⟨a, b, rfl⟩
theorem read_two {r : Reach} {b0 : Nat} {v : Value} {d : DataW H} {p : List MemPlace} (hv : Value.okWide Try.prog w r b0 46 v) (h : DataW.Trod enc Try.prog w base spare held 46 v d p) :
    ∃ x y : Int, v = .agg #[.int .i64 x, .int .i64 y] := by
  obtain ⟨cs, rfl, hs⟩ := okWide_array Try.underlying46 hv
  obtain ⟨fuel, hf⟩ := h
  obtain ⟨xs, m, _, e, hl, hlen, hf⟩ := DataW.trod_array Try.underlying46 hf
  simp [Value.cells] at hl hf
  obtain ⟨cl⟩ := cs
  obtain ⟨c0, c1, rfl⟩ := two_of (hl.trans (by kernel_rfl))
  have h0 := hf 0 (by omega)
  have h1 := hf 1 (by omega)
  have n3 : Try.prog.cellsOf 3 = 1 := by kernel_rfl
  rw [List.getElem?_eq_getElem (by omega)] at h0 h1
  simp [n3] at h0 h1
  obtain ⟨a, rfl, _⟩ := cell_int Try.underlying3 h0
  obtain ⟨b, rfl, _⟩ := cell_int Try.underlying3 h1
  exact ⟨a, b, rfl⟩
end Go.Proofs.Ytpjodppcedkneaa
