/- A slice of ints, as an argument is read. -/
import Derived.Test.YtpjodppcedkneaaFr
import Derived.Test.YtpjodppcedkneaaT4
namespace Go.Proofs.Ytpjodppcedkneaa
open Go.Deep
open Go.ChangeShapes Go.WideShapes Go.ChangeAt Go.RowKit Go.Joins
variable {H : Type} {enc : TypeId × Value → H} {P : Program} {w : World} {base : Nat} {spare : Nat → Bool} {held : Bool}
theorem cell_at {w : World} {a : Addr} {v : Value} (h : w.cell? a = some v) : a.spot = none ∧ a.block < w.heap.size := by
  unfold World.cell? at h
  split at h
  · next c e f hc =>
    refine ⟨?_, ?_⟩
    · cases hs : a.spot with
      | none => rfl
      | some x => rw [hs] at h; simp at h
    · exact (Array.getElem?_eq_some_iff.1 hc).1
  · cases h
theorem addr_of {w : World} {a : Addr} {v : Value} (h : w.cell? a = some v) : a = ⟨a.block, a.off, none⟩ := by
  obtain ⟨h1, _⟩ := cell_at h
  cases a; simp at h1; simp [h1]
theorem add_eq (b o i : Nat) : (⟨b, o, none⟩ : Addr).add i = ⟨b, o + i, none⟩ := by
  unfold Addr.add; split
  · next h => subst h; rfl
  · rfl
theorem cell_ints {fuel : Nat} {c : Value} {x : DataW H × List MemPlace} (h : DataW.trod enc Try.prog w base spare held fuel 22 [c] = some x) :
    ∃ L : List Int, IntsAt w c L ∧ L.length ≤ 9223372036854775807 := by
  rcases open_slice1 Try.underlying22 (by kernel_rfl) h with ⟨h1, _⟩ | ⟨a, len, cap, m, n, V, D, Pl, h1, hb, hl, hm, hmm, _, hx⟩
  · simp at h1
    exact ⟨[], ⟨none, 0, h1, by simp⟩, by simp⟩
  · simp at h1
    have hlm : len ≤ m := by rw [hmm]; split <;> omega
    have hq : ∀ i, i < len → ∃ q : Int, w.cell? (a.add i) = some (.int .i64 q) := by
      intro i hi
      obtain ⟨h1, h2⟩ := hx i (by omega)
      obtain ⟨q, e, _⟩ := cell_int Try.underlying3 h2
      exact ⟨q, by rw [h1, e]⟩
    obtain ⟨Q, hQ⟩ := Go.Deep.choose_lt hq
    refine ⟨(List.range len).map Q, ⟨some a, cap, by rw [h1]; simp, fun h0 => ?_⟩, by have : maxLen = 9223372036854775807 := rfl; simp; omega⟩
    have hl0 : 0 < len := by simpa using h0
    have k0 := hQ 0 hl0
    rw [show a.add 0 = a by simp [Addr.add]] at k0
    have ea := addr_of k0
    refine ⟨a.block, a.off, by rw [← ea], (cell_at k0).2, fun i hi => ?_⟩
    have hi' : i < len := by simpa using hi
    have := hQ i hi'
    rw [ea, add_eq] at this
    simpa using this
theorem read_ints {r : Reach} {b0 : Nat} {v : Value} {d : DataW H} {p : List MemPlace} (hv : Value.okWide Try.prog w r b0 22 v) (h : DataW.Trod enc Try.prog w base spare held 22 v d p) :
    ∃ L : List Int, IntsAt w v L ∧ L.length ≤ 9223372036854775807 := by
  obtain ⟨a0, len0, cap0, rfl⟩ := okWide_slice Try.underlying22 hv
  obtain ⟨fuel, hf⟩ := h
  exact cell_ints hf
end Go.Proofs.Ytpjodppcedkneaa
