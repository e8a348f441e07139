/- A slice of calls, as an argument is read. -/
import Derived.Test.YtnfpfpppnfighaaDoorFr
import Derived.Test.YtnfpfpppnfighaaDoorRM
namespace Go.Proofs.YtnfpfpppnfighaaDoor
open Go.Deep
open Go.ChangeShapes Go.WideShapes Go.ChangeAt Go.RowKit Go.Joins
set_option linter.unusedVariables false
set_option maxRecDepth 100000
theorem cell_at {w : World} {a : Addr} {v : Value} (h : w.cell? a = some v) : a.spot = none ∧ a.block < w.heap.size := by
  unfold World.cell? at h
  split at h
  · next c e f hc =>
    refine ⟨?_, ?_⟩
    · cases hs : a.spot with
      | none => rfl
      | some x => rw [hs] at h; simp at h
    · exact (Array.getElem?_eq_some_iff.1 hc).1
  · cases h
theorem addr_of {w : World} {a : Addr} {v : Value} (h : w.cell? a = some v) : a = ⟨a.block, a.off, none⟩ := by
  obtain ⟨h1, _⟩ := cell_at h
  cases a; simp at h1; simp [h1]
theorem add_eq (b o i : Nat) : (⟨b, o, none⟩ : Addr).add i = ⟨b, o + i, none⟩ := by
  unfold Addr.add; split
  · next h => subst h; rfl
  · rfl
variable {H : Type} {enc : TypeId × Value → H} {w : World} {base : Nat} {spare : Nat → Bool} {held : Bool}
theorem op_sized {fuel : Nat} {cs : List Value} {x : DataW H × List MemPlace} (h : DataW.trod enc Tryd.prog w base spare held fuel 39 cs = some x) (hs : (x.1.weights Tryd.prog 39).all (· ≤ reachBytes) = true) :
    ∃ o : OpD, cs = [.int .i64 o.a, .bool o.e, .int .i64 o.n, .string (st o.t)] ∧ o.ok := by
  obtain ⟨a, e, n, t, e1, b, bt⟩ := op_cells h
  refine ⟨⟨a, e, n, t⟩, e1, b, ?_⟩
  obtain ⟨xs, m, _, rfl, hl, hlen, hf⟩ := DataW.trod_struct Tryd.underlying39 h
  subst e1
  obtain ⟨x0, x1, x2, rfl⟩ : ∃ x0 x1 x2, xs = [x0, x1, x2] := by
    match xs, hlen with
    | [x0, x1, x2], _ => exact ⟨x0, x1, x2, rfl⟩
  have n9 : Tryd.prog.cellsOf 9 = 1 := by kernel_rfl
  have h2 := hf 2 _ rfl
  simp [n9] at h2
  have hw : x2.1 = .lit (.string t) := by
    cases m with
    | zero => simp [DataW.trod] at h2
    | succ m =>
      simp [DataW.trod, Tryd.underlying9] at h2
      obtain ⟨_, h2⟩ := h2
      rw [← h2]
      simp [st]
  simp only [DataW.weights, Tryd.underlying39, List.map_cons, List.map_nil] at hs
  simp [DataW.weightsEach, hw, DataW.weights] at hs
  exact hs.2.2
theorem all_weights {e : TypeId} {D : List (DataW H)} (h : (DataW.weightsAll Tryd.prog e D).all (· ≤ reachBytes) = true) : ∀ d ∈ D, (d.weights Tryd.prog e).all (· ≤ reachBytes) = true := by
  induction D with
  | nil => intro d hd; cases hd
  | cons x r ih =>
    intro d hd
    simp only [DataW.weightsAll, List.all_append, Bool.and_eq_true] at h
    rcases List.mem_cons.1 hd with rfl | hd
    · exact h.1
    · exact ih h.2 d hd
theorem read_ops {r : Reach} {b0 : Nat} {v : Value} {d : DataW H} {p : List MemPlace} (hv : Value.okWide Tryd.prog w r b0 41 v) (h : DataW.Trod enc Tryd.prog w base spare held 41 v d p) (hs : (d.weights Tryd.prog 41).all (· ≤ reachBytes) = true) :
    ∃ l : List OpD, OpsAt w v l := by
  obtain ⟨a0, len0, cap0, rfl⟩ := okWide_slice Tryd.underlying41 hv
  obtain ⟨fuel, hf⟩ := h
  have n39 : Tryd.prog.cellsOf 39 = 4 := by kernel_rfl
  have b39 : Tryd.prog.bytesOf 39 = 40 := by kernel_rfl
  have hrb : reachBytes = 140737488351232 := rfl
  rcases Go.Deep.open_slice Tryd.underlying41 hf with ⟨e, _⟩ | ⟨a, len, cap, m, n, D, Pl, e, hb, hl, hm, hmm, hd, hx⟩
  · simp [Value.cells] at e
    obtain ⟨rfl, rfl, rfl⟩ := e
    exact ⟨[], ⟨none, 0, rfl, by simp, by simp, by simp⟩⟩
  · simp [Value.cells] at e
    obtain ⟨rfl, rfl, rfl⟩ := e
    simp only [Prod.mk.injEq] at hd
    obtain ⟨rfl, _⟩ := hd
    simp only [DataW.weights, Tryd.underlying41, List.all_cons, List.all_append, Bool.and_eq_true, decide_eq_true_eq] at hs
    obtain ⟨hs0, hs1, _⟩ := hs
    rw [b39] at hs0
    simp only [List.length_map, List.length_range] at hs0
    have hlm : len0 ≤ m := by rw [hmm]; split <;> omega
    rw [n39] at hx
    have hq : ∀ j, j < len0 → ∃ o : OpD, (w.cell? (a.add (j * 4)) = some (.int .i64 o.a) ∧ w.cell? ((a.add (j * 4)).add 1) = some (.bool o.e) ∧
        w.cell? ((a.add (j * 4)).add 2) = some (.int .i64 o.n) ∧ w.cell? ((a.add (j * 4)).add 3) = some (.string (st o.t))) ∧ o.ok := by
      intro j hj
      obtain ⟨cs', h1, h2⟩ := hx j (by omega)
      obtain ⟨o, rfl, ho⟩ := op_sized h2 (all_weights hs1 (D j) (List.mem_map.2 ⟨j, List.mem_range.2 hj, rfl⟩))
      obtain ⟨_, hlen, hc⟩ := World.cells?_some h1
      have c0 := hc 0 (by simp)
      have c1 := hc 1 (by simp)
      have c2 := hc 2 (by simp)
      have c3 := hc 3 (by simp)
      exact ⟨o, ⟨by simpa [Addr.add] using c0, by simpa using c1, by simpa using c2, by simpa using c3⟩, ho⟩
    haveI : Inhabited OpD := ⟨⟨0, false, 0, []⟩⟩
    obtain ⟨Q, hQ⟩ := Go.Deep.choose_lt hq
    refine ⟨(List.range len0).map Q, ⟨some a, cap0, by simp, fun h0 => ?_, fun o ho => ?_, by simp; omega⟩⟩
    · have hl0 : 0 < len0 := by simpa using h0
      have k0 := (hQ 0 hl0).1.1
      rw [show a.add (0 * 4) = a by simp [Addr.add]] at k0
      have ea := addr_of k0
      refine ⟨a.block, a.off, by rw [← ea], (cell_at k0).2, fun j hj => ?_⟩
      have hj' : j < len0 := by simpa using hj
      have hj2 := (hQ j hj').1
      rw [ea] at hj2
      simp only [add_eq] at hj2
      unfold OpAt
      simpa using hj2
    · rw [List.mem_map] at ho
      obtain ⟨j, hj, rfl⟩ := ho
      exact (hQ j (by simpa using hj)).2
theorem read_op_sized {r : Reach} {b0 : Nat} {v : Value} {d : DataW H} {p : List MemPlace} (hv : Value.okWide Tryd.prog w r b0 39 v) (h : DataW.Trod enc Tryd.prog w base spare held 39 v d p) (hs : (d.weights Tryd.prog 39).all (· ≤ reachBytes) = true) :
    ∃ o : OpD, v = opV o.a o.e o.n o.t ∧ o.ok := by
  obtain ⟨cs, rfl, hs2⟩ := okWide_struct Tryd.underlying39 hv
  obtain ⟨fuel, hf⟩ := h
  obtain ⟨o, e1, b⟩ := op_sized hf hs
  refine ⟨o, ?_, b⟩
  simp [Value.cells] at e1
  obtain ⟨cl⟩ := cs
  simp at e1
  unfold opV
  rw [e1]
end Go.Proofs.YtnfpfpppnfighaaDoor
