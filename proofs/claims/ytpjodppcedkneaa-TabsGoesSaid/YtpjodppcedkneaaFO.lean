/- A slice of calls, as an argument is read. -/
import Derived.Test.YtpjodppcedkneaaFI
import Derived.Test.YtpjodppcedkneaaU7
namespace Go.Proofs.Ytpjodppcedkneaa
open Go.Deep
open Go.ChangeShapes Go.WideShapes Go.ChangeAt Go.RowKit Go.Joins
variable {H : Type} {enc : TypeId × Value → H} {P : Program} {w : World} {base : Nat} {spare : Nat → Bool} {held : Bool}
theorem op_read {fuel : Nat} {cs : List Value} {x : DataW H × List MemPlace} (h : DataW.trod enc Try.prog w base spare held fuel 40 cs = some x) :
    ∃ o : OpD, cs = [.int .i64 o.a, .int .i64 o.n, .int .i64 o.m, .slice o.ad o.L.length o.cap] ∧ o.ok w := by
  obtain ⟨xs, m, _, rfl, hl, hlen, hf⟩ := DataW.trod_struct Try.underlying40 h
  obtain ⟨c0, c1, c2, c3, rfl⟩ := four (hl.trans (by kernel_rfl))
  have h0 := hf 0 _ rfl
  have h1 := hf 1 _ rfl
  have h2 := hf 2 _ rfl
  have h3 := hf 3 _ rfl
  have n3 : Try.prog.cellsOf 3 = 1 := by kernel_rfl
  have n22 : Try.prog.cellsOf 22 = 1 := by kernel_rfl
  simp at hlen
  rw [List.getElem?_eq_getElem (by omega)] at h0 h1 h2 h3
  simp [n3, n22] at h0 h1 h2 h3
  obtain ⟨k, rfl, _⟩ := cell_int Try.underlying3 h0
  obtain ⟨c, rfl, _, c1⟩ := cell_int Try.underlying3 h1
  obtain ⟨s, rfl, b0, b1⟩ := cell_int Try.underlying3 h2
  obtain ⟨L, hL, hll⟩ := cell_ints h3
  obtain ⟨ad, cap, rfl, hx⟩ := id hL
  exact ⟨⟨k, c, s, ad, cap, L⟩, rfl, c1, b0, b1, hL, hll⟩
theorem read_ops {r : Reach} {b0 : Nat} {v : Value} {d : DataW H} {p : List MemPlace} (hv : Value.okWide Try.prog w r b0 33 v) (h : DataW.Trod enc Try.prog w base spare held 33 v d p) :
    ∃ l : List OpD, OpsAt w v l ∧ l.length ≤ 9223372036854775807 := by
  obtain ⟨a0, len0, cap0, rfl⟩ := okWide_slice Try.underlying33 hv
  obtain ⟨fuel, hf⟩ := h
  have n40 : Try.prog.cellsOf 40 = 4 := by kernel_rfl
  rcases Go.Deep.open_slice Try.underlying33 hf with ⟨e, _⟩ | ⟨a, len, cap, m, n, D, Pl, e, hb, hl, hm, hmm, _, hx⟩
  · simp [Value.cells] at e
    obtain ⟨rfl, rfl, rfl⟩ := e
    exact ⟨[], ⟨none, 0, rfl, by simp, by simp⟩, by simp⟩
  · simp [Value.cells] at e
    obtain ⟨rfl, rfl, rfl⟩ := e
    have hlm : len0 ≤ m := by rw [hmm]; split <;> omega
    rw [n40] at hx
    have hq : ∀ j, j < len0 → ∃ o : OpD, (w.cell? (a.add (j * 4)) = some (.int .i64 o.a) ∧ w.cell? ((a.add (j * 4)).add 1) = some (.int .i64 o.n) ∧
        w.cell? ((a.add (j * 4)).add 2) = some (.int .i64 o.m) ∧ w.cell? ((a.add (j * 4)).add 3) = some (.slice o.ad o.L.length o.cap)) ∧ o.ok w := by
      intro j hj
      obtain ⟨cs', h1, h2⟩ := hx j (by omega)
      obtain ⟨o, rfl, ho⟩ := op_read h2
      obtain ⟨_, hlen, hc⟩ := World.cells?_some h1
      have c0 := hc 0 (by simp)
      have c1 := hc 1 (by simp)
      have c2 := hc 2 (by simp)
      have c3 := hc 3 (by simp)
      exact ⟨o, ⟨by simpa [Addr.add] using c0, by simpa using c1, by simpa using c2, by simpa using c3⟩, ho⟩
    haveI : Inhabited OpD := ⟨⟨0, 0, 0, none, 0, []⟩⟩
    obtain ⟨Q, hQ⟩ := Go.Deep.choose_lt hq
    have hmx : maxLen = 9223372036854775807 := rfl
    refine ⟨(List.range len0).map Q, ⟨some a, cap0, by simp, fun h0 => ?_, fun o ho => ?_⟩, by simp; omega⟩
    · have hl0 : 0 < len0 := by simpa using h0
      have k0 := (hQ 0 hl0).1.1
      rw [show a.add (0 * 4) = a by simp [Addr.add]] at k0
      have ea := addr_of k0
      refine ⟨a.block, a.off, by rw [← ea], (cell_at k0).2, fun j hj => ?_⟩
      have hj' : j < len0 := by simpa using hj
      have hj2 := (hQ j hj').1
      rw [ea] at hj2
      simp only [add_eq] at hj2
      unfold OpAt
      simpa using hj2
    · rw [List.mem_map] at ho
      obtain ⟨j, hj, rfl⟩ := ho
      exact (hQ j (by simpa using hj)).2
end Go.Proofs.Ytpjodppcedkneaa
