/- How the arguments of the field laws are read: small openers. -/
import Derived.Test.YtooikmialpfdkaaF1
import Derived.WalkKit
import Derived.ProofKit
import Derived.OpenShut
import Derived.ChangeOld
import Derived.Below
import Derived.Deep.Slices
import Derived.Lib.SmallJoins
namespace Go.Proofs.Ytooikmialpfdkaa
open Go.ChangeShapes Go.WideShapes Go.ChangeAt Go.RowKit Go.Joins
variable {H : Type} {enc : TypeId × Value → H} {P : Program} {w : World} {base : Nat} {spare : Nat → Bool} {held : Bool}

theorem i64_bd {n : Int} (h : (Lit.int .i64 n).wf = true) : -9223372036854775808 ≤ n ∧ n ≤ 9223372036854775807 := by
  simp [Lit.wf, IntKind.min, IntKind.max, IntKind.bits, IntKind.signed] at h
  omega
theorem i32_bd {n : Int} (h : (Lit.int .i32 n).wf = true) : -2147483648 ≤ n ∧ n ≤ 2147483647 := by
  simp [Lit.wf, IntKind.min, IntKind.max, IntKind.bits, IntKind.signed] at h
  omega
/-- A whole number of an int. -/
def I64 (n : Int) : Prop := -9223372036854775808 ≤ n ∧ n ≤ 9223372036854775807
theorem read_int {r : Reach} {b0 : Nat} {t : TypeId} {v : Value} {d : DataW H} {p : List MemPlace} (ht : P.underlying t = some (.int .i64)) (hv : Value.okWide P w r b0 t v) (h : DataW.Trod enc P w base spare held t v d p) :
    ∃ n : Int, v = .int .i64 n ∧ I64 n := by
  obtain ⟨n, hv, _, _, hw⟩ := open_int ht hv h
  exact ⟨n, hv, i64_bd hw⟩
theorem read_bool {r : Reach} {b0 : Nat} {t : TypeId} {v : Value} {d : DataW H} {p : List MemPlace} (ht : P.underlying t = some .bool) (hv : Value.okWide P w r b0 t v) (h : DataW.Trod enc P w base spare held t v d p) :
    ∃ b : Bool, v = .bool b := by
  obtain ⟨n, hv, _, _⟩ := open_bool ht hv h
  exact ⟨n, hv⟩
theorem cell_int {k : IntKind} {t : TypeId} {fuel : Nat} {c : Value} {x : DataW H × List MemPlace} (ht : P.underlying t = some (.int k)) (h : DataW.trod enc P w base spare held fuel t [c] = some x) :
    ∃ n : Int, c = .int k n ∧ (Lit.int k n).wf = true := by
  obtain ⟨n, h1, _, hw⟩ := DataW.trod_int ht h
  simp at h1
  exact ⟨n, h1, hw⟩
theorem cell_bool {t : TypeId} {fuel : Nat} {c : Value} {x : DataW H × List MemPlace} (ht : P.underlying t = some .bool) (h : DataW.trod enc P w base spare held fuel t [c] = some x) :
    ∃ b : Bool, c = .bool b := by
  obtain ⟨n, h1, _⟩ := DataW.trod_bool ht h
  simp at h1
  exact ⟨n, h1⟩
theorem four {α : Type} {l : List α} (h : l.length = 4) : ∃ a b c d, l = [a, b, c, d] := by
  match l, h with
  | [a, b, c, d], _ => exact ⟨a, b, c, d, rfl⟩
theorem two {α : Type} {l : List α} (h : l.length = 2) : ∃ a b, l = [a, b] := by
  match l, h with
  | [a, b], _ => exact ⟨a, b, rfl⟩
theorem cell_cells {fuel : Nat} {cs : List Value} {x : DataW H × List MemPlace}
    (h : DataW.trod enc Try.prog w base spare held fuel 44 cs = some x) : ∃ (g a : Int) (d : Bool) (m : Int), cs = [.int .i32 g, .int .i64 a, .bool d, .int .i64 m] ∧ -2147483648 ≤ g ∧ g ≤ 2147483647 := by
  obtain ⟨xs, m, _, rfl, hl, hlen, hf⟩ := DataW.trod_struct Try.underlying44 h
  obtain ⟨c0, c1, c2, c3, rfl⟩ := four (hl.trans (by kernel_rfl))
  have h0 := hf 0 _ rfl
  have h1 := hf 1 _ rfl
  have h2 := hf 2 _ rfl
  have h3 := hf 3 _ rfl
  have n21 : Try.prog.cellsOf 21 = 1 := by kernel_rfl
  have n3 : Try.prog.cellsOf 3 = 1 := by kernel_rfl
  have n4 : Try.prog.cellsOf 4 = 1 := by kernel_rfl
  simp at hlen
  rw [List.getElem?_eq_getElem (by omega)] at h0 h1 h2 h3
  simp [n3, n4, n21] at h0 h1 h2 h3
  obtain ⟨g, rfl, hg⟩ := cell_int Try.underlying21 h0
  obtain ⟨a, rfl, _⟩ := cell_int Try.underlying3 h1
  obtain ⟨d, rfl⟩ := cell_bool Try.underlying4 h2
  obtain ⟨m, rfl, _⟩ := cell_int Try.underlying3 h3
  exact ⟨g, a, d, m, rfl, (i32_bd hg).1, (i32_bd hg).2⟩
theorem read_pos {r : Reach} {b0 : Nat} {v : Value} {d : DataW H} {p : List MemPlace} (hv : Value.okWide Try.prog w r b0 24 v) (h : DataW.Trod enc Try.prog w base spare held 24 v d p) :
    ∃ a b : Int, v = .agg #[.int .i64 a, .int .i64 b] ∧ I64 a ∧ I64 b := by
  obtain ⟨cs, rfl, hs⟩ := okWide_struct Try.underlying24 hv
  obtain ⟨fuel, hf⟩ := h
  obtain ⟨xs, m, _, e, hl, hlen, hf⟩ := DataW.trod_struct Try.underlying24 hf
  simp [Value.cells] at hl hf
  obtain ⟨cl⟩ := cs
  obtain ⟨c0, c1, rfl⟩ := two (hl.trans (by kernel_rfl))
  have h0 := hf 0 _ rfl
  have h1 := hf 1 _ rfl
  have n3 : Try.prog.cellsOf 3 = 1 := by kernel_rfl
  simp at hlen
  rw [List.getElem?_eq_getElem (by omega)] at h0 h1
  simp [n3] at h0 h1
  obtain ⟨a, rfl, ha⟩ := cell_int Try.underlying3 h0
  obtain ⟨b, rfl, hb⟩ := cell_int Try.underlying3 h1
  exact ⟨a, b, rfl, i64_bd ha, i64_bd hb⟩
theorem cell_at {w : World} {a : Addr} {v : Value} (h : w.cell? a = some v) : a.spot = none ∧ a.block < w.heap.size := by
  unfold World.cell? at h
  split at h
  · next c e f hc =>
    refine ⟨?_, ?_⟩
    · cases hs : a.spot with
      | none => rfl
      | some x => rw [hs] at h; simp at h
    · exact (Array.getElem?_eq_some_iff.1 hc).1
  · cases h
theorem addr_of {w : World} {a : Addr} {v : Value} (h : w.cell? a = some v) : a = ⟨a.block, a.off, none⟩ := by
  obtain ⟨h1, _⟩ := cell_at h
  cases a; simp at h1; simp [h1]
theorem add_eq (b o i : Nat) : (⟨b, o, none⟩ : Addr).add i = ⟨b, o + i, none⟩ := by
  unfold Addr.add; split
  · next h => subst h; rfl
  · rfl
/-- A row. -/
theorem row_cells {fuel : Nat} {c : Value} {x : DataW H × List MemPlace} (h : DataW.trod enc Try.prog w base spare held fuel 28 [c] = some x) :
    ∃ (ra : Option Addr) (len rc : Nat) (gl tr : Nat → Int) (gd : Nat → Bool) (ma : Nat → Int), c = .slice ra len rc ∧ len ≤ 9223372036854775807 ∧
      (0 < len → ∃ rb ro, ra = some ⟨rb, ro, none⟩ ∧ rb < w.heap.size ∧ ∀ j, j < len → w.cell? ⟨rb, ro + j * 4, none⟩ = some (.int .i32 (gl j)) ∧ w.cell? ⟨rb, ro + j * 4 + 1, none⟩ = some (.int .i64 (tr j)) ∧
        w.cell? ⟨rb, ro + j * 4 + 2, none⟩ = some (.bool (gd j)) ∧ w.cell? ⟨rb, ro + j * 4 + 3, none⟩ = some (.int .i64 (ma j))) ∧ ∀ j, j < len → -2147483648 ≤ gl j ∧ gl j ≤ 2147483647 := by
  have n44 : Try.prog.cellsOf 44 = 4 := by kernel_rfl
  rcases Go.Deep.open_slice Try.underlying28 h with ⟨e, _⟩ | ⟨a, len, cap, m, n, D, Pl, e, hb, hl, hm, hmm, _, hx⟩
  · simp at e
    exact ⟨none, 0, 0, fun _ => 0, fun _ => 0, fun _ => false, fun _ => 0, e, by omega, by omega, by omega⟩
  · simp at e
    have hlm : len ≤ m := by rw [hmm]; split <;> omega
    rw [n44] at hx
    have hq : ∀ j, j < len → ∃ q : Int × Int × Bool × Int, (w.cell? (a.add (j * 4)) = some (.int .i32 q.1) ∧ w.cell? ((a.add (j * 4)).add 1) = some (.int .i64 q.2.1) ∧
        w.cell? ((a.add (j * 4)).add 2) = some (.bool q.2.2.1) ∧ w.cell? ((a.add (j * 4)).add 3) = some (.int .i64 q.2.2.2)) ∧ -2147483648 ≤ q.1 ∧ q.1 ≤ 2147483647 := by
      intro j hj
      obtain ⟨cs', h1, h2⟩ := hx j (by omega)
      obtain ⟨g, t, d, k, rfl, b1, b2⟩ := cell_cells h2
      obtain ⟨_, hlen, hc⟩ := World.cells?_some h1
      have c0 := hc 0 (by simp)
      have c1 := hc 1 (by simp)
      have c2 := hc 2 (by simp)
      have c3 := hc 3 (by simp)
      exact ⟨(g, t, d, k), ⟨by simpa [Addr.add] using c0, by simpa using c1, by simpa using c2, by simpa using c3⟩, b1, b2⟩
    obtain ⟨Q, hQ⟩ := Go.Deep.choose_lt hq
    refine ⟨some a, len, cap, fun j => (Q j).1, fun j => (Q j).2.1, fun j => (Q j).2.2.1, fun j => (Q j).2.2.2, e, by have : maxLen = 9223372036854775807 := rfl; omega, fun h0 => ?_, fun j hj => (hQ j hj).2⟩
    have k0 := (hQ 0 h0).1.1
    rw [show a.add (0 * 4) = a by simp [Addr.add]] at k0
    have ea := addr_of k0
    refine ⟨a.block, a.off, by rw [← ea], (cell_at k0).2, fun j hj => ?_⟩
    have hj' := (hQ j hj).1
    rw [ea] at hj'
    simp only [add_eq] at hj'
    exact hj'
theorem read_grid {r : Reach} {b0 : Nat} {v : Value} {d : DataW H} {p : List MemPlace} (hv : Value.okWide Try.prog w r b0 22 v) (h : DataW.Trod enc Try.prog w base spare held 22 v d p) :
    ∃ G : Grid, v = G.v ∧ G.In w.heap.size w := by
  obtain ⟨a0, len0, cap0, rfl⟩ := okWide_slice Try.underlying22 hv
  obtain ⟨fuel, hf⟩ := h
  have n28 : Try.prog.cellsOf 28 = 1 := by kernel_rfl
  rcases Go.Deep.open_slice1 Try.underlying22 n28 hf with ⟨e, _⟩ | ⟨a, len, cap, m, n, V, D, Pl, e, hb, hl, hm, hmm, _, hx⟩
  · simp [Value.cells] at e
    obtain ⟨rfl, rfl, rfl⟩ := e
    exact ⟨⟨0, none, 0, fun _ => none, fun _ => 0, fun _ => 0, fun _ _ => 0, fun _ _ => 0, fun _ _ => false, fun _ _ => 0⟩, rfl, by simp, fun h => absurd h (by simp), fun i h => absurd h (by simp), fun i h => absurd h (by simp), fun i h => absurd h (by simp)⟩
  · simp [Value.cells] at e
    obtain ⟨rfl, rfl, rfl⟩ := e
    have hlm : len0 ≤ m := by rw [hmm]; split <;> omega
    have hq : ∀ i, i < len0 → ∃ q : Option Addr × Nat × Nat × (Nat → Int) × (Nat → Int) × (Nat → Bool) × (Nat → Int), w.cell? (a.add i) = some (.slice q.1 q.2.1 q.2.2.1) ∧ q.2.1 ≤ 9223372036854775807 ∧
        (0 < q.2.1 → ∃ rb ro, q.1 = some ⟨rb, ro, none⟩ ∧ rb < w.heap.size ∧ ∀ j, j < q.2.1 → w.cell? ⟨rb, ro + j * 4, none⟩ = some (.int .i32 (q.2.2.2.1 j)) ∧ w.cell? ⟨rb, ro + j * 4 + 1, none⟩ = some (.int .i64 (q.2.2.2.2.1 j)) ∧
        w.cell? ⟨rb, ro + j * 4 + 2, none⟩ = some (.bool (q.2.2.2.2.2.1 j)) ∧ w.cell? ⟨rb, ro + j * 4 + 3, none⟩ = some (.int .i64 (q.2.2.2.2.2.2 j))) ∧ ∀ j, j < q.2.1 → -2147483648 ≤ q.2.2.2.1 j ∧ q.2.2.2.1 j ≤ 2147483647 := by
      intro i hi
      obtain ⟨h1, h2⟩ := hx i (by omega)
      obtain ⟨ra, l, rc, gl, tr, gd, ma, e, k1, k2, k3⟩ := row_cells h2
      exact ⟨(ra, l, rc, gl, tr, gd, ma), by rw [h1, e], k1, k2, k3⟩
    obtain ⟨Q, hQ⟩ := Go.Deep.choose_lt hq
    refine ⟨⟨len0, some a, cap0, fun i => (Q i).1, fun i => (Q i).2.1, fun i => (Q i).2.2.1, fun i => (Q i).2.2.2.1, fun i => (Q i).2.2.2.2.1, fun i => (Q i).2.2.2.2.2.1, fun i => (Q i).2.2.2.2.2.2⟩, rfl,
      by have : maxLen = 9223372036854775807 := rfl; simp only; omega, fun h0 => ?_, fun i hi => (hQ i hi).2.1, fun i hi h0 => (hQ i hi).2.2.1 h0, fun i hi => (hQ i hi).2.2.2⟩
    have k0 := (hQ 0 h0).1
    rw [show a.add 0 = a by simp [Addr.add]] at k0
    have ea := addr_of k0
    refine ⟨a.block, a.off, by simp only; rw [← ea], (cell_at k0).2, fun i hi => ?_⟩
    have hi' := (hQ i hi).1
    rw [ea, add_eq] at hi'
    exact hi'
theorem own : ownKnob Try.prog.godebug = none := by kernel_rfl
theorem laidOut : laidOutB Try.prog = true := by kernel_rfl
end Go.Proofs.Ytooikmialpfdkaa
