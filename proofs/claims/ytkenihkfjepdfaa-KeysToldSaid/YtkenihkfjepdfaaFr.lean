/- How the arguments of the laws are read: small openers. -/
import Derived.Test.YtkenihkfjepdfaaRows
import Derived.WalkKit
import Derived.ProofKit
import Derived.OpenShut
import Derived.ShutString
import Derived.ChangeOld
import Derived.Below
import Derived.Lib.SmallJoins
namespace Go.Proofs.Ytkenihkfjepdfaa
open Go.ChangeShapes Go.WideShapes Go.ChangeAt Go.RowKit Go.Joins
variable {H : Type} {enc : TypeId × Value → H} {P : Program} {w : World} {base : Nat} {spare : Nat → Bool} {held : Bool}

theorem okWide_array {r : Reach} {b0 n : Nat} {t e : TypeId} {v : Value} (ht : P.underlying t = some (.array n e)) (h : Value.okWide P w r b0 t v) : ∃ cs, v = .agg cs ∧ cs.size = P.cellsOf t := by
  unfold Value.okWide at h
  rw [ht] at h
  obtain ⟨cs, h1, h2, _⟩ := h
  exact ⟨cs, h1, h2⟩
theorem i64_bd {n : Int} (h : (Lit.int .i64 n).wf = true) : -9223372036854775808 ≤ n ∧ n ≤ 9223372036854775807 := by
  simp [Lit.wf, IntKind.min, IntKind.max, IntKind.bits, IntKind.signed] at h
  omega
/-- An int. -/
theorem read_int {r : Reach} {b0 : Nat} {t : TypeId} {v : Value} {d : DataW H} {p : List MemPlace} (ht : P.underlying t = some (.int .i64)) (hv : Value.okWide P w r b0 t v) (h : DataW.Trod enc P w base spare held t v d p) :
    ∃ n : Int, v = .int .i64 n ∧ -9223372036854775808 ≤ n ∧ n ≤ 9223372036854775807 := by
  obtain ⟨n, hv, _, _, hw⟩ := open_int ht hv h
  exact ⟨n, hv, i64_bd hw⟩
theorem read_bool {r : Reach} {b0 : Nat} {t : TypeId} {v : Value} {d : DataW H} {p : List MemPlace} (ht : P.underlying t = some .bool) (hv : Value.okWide P w r b0 t v) (h : DataW.Trod enc P w base spare held t v d p) :
    ∃ b : Bool, v = .bool b := by
  obtain ⟨n, hv, _, _⟩ := open_bool ht hv h
  exact ⟨n, hv⟩
theorem cell_int {t : TypeId} {fuel : Nat} {c : Value} {x : DataW H × List MemPlace} (ht : P.underlying t = some (.int .i64)) (h : DataW.trod enc P w base spare held fuel t [c] = some x) :
    ∃ n : Int, c = .int .i64 n ∧ -9223372036854775808 ≤ n ∧ n ≤ 9223372036854775807 := by
  obtain ⟨n, h1, _, hw⟩ := DataW.trod_int ht h
  simp at h1
  exact ⟨n, h1, i64_bd hw⟩
theorem cell_bool {t : TypeId} {fuel : Nat} {c : Value} {x : DataW H × List MemPlace} (ht : P.underlying t = some .bool) (h : DataW.trod enc P w base spare held fuel t [c] = some x) :
    ∃ b : Bool, c = .bool b := by
  obtain ⟨n, h1, _⟩ := DataW.trod_bool ht h
  simp at h1
  exact ⟨n, h1⟩
theorem read_bools2 {r : Reach} {b0 : Nat} {t e : TypeId} {v : Value} {d : DataW H} {p : List MemPlace} (ht : P.underlying t = some (.array 2 e)) (he : P.underlying e = some .bool) (hc : P.cellsOf t = 2) (hce : P.cellsOf e = 1)
    (hv : Value.okWide P w r b0 t v) (h : DataW.Trod enc P w base spare held t v d p) : ∃ a b : Bool, v = .agg #[.bool a, .bool b] := by
  obtain ⟨cs, rfl, hs⟩ := okWide_array ht hv
  obtain ⟨c0, c1, rfl⟩ := array2 (hs.trans hc)
  obtain ⟨fuel, hf⟩ := h
  obtain ⟨xs, m, _, _, _, hl, hx⟩ := DataW.trod_array ht hf
  have h0 := hx 0 (by omega)
  have h1 := hx 1 (by omega)
  rw [List.getElem?_eq_getElem (by omega)] at h0 h1
  simp [hce, Value.cells] at h0 h1
  obtain ⟨a, rfl⟩ := cell_bool he h0
  obtain ⟨b, rfl⟩ := cell_bool he h1
  exact ⟨a, b, rfl⟩
theorem four {α : Type} {l : List α} (h : l.length = 4) : ∃ a b c d, l = [a, b, c, d] := by
  match l, h with
  | [a, b, c, d], _ => exact ⟨a, b, c, d, rfl⟩
/-- A whole number of an int. -/
def I64 (n : Int) : Prop := -9223372036854775808 ≤ n ∧ n ≤ 9223372036854775807
theorem key_cells {fuel : Nat} {cs : List Value} {x : DataW H × List MemPlace} 
    (h : DataW.trod enc Try.prog w base spare held fuel 23 cs = some x) : ∃ (k c : Int) (s t : Bool), cs = [.int .i64 k, .int .i64 c, .bool s, .bool t] ∧ I64 k ∧ I64 c := by
  obtain ⟨xs, m, _, rfl, hl, hlen, hf⟩ := DataW.trod_struct Try.underlying23 h
  obtain ⟨c0, c1, c2, c3, rfl⟩ := four (hl.trans (by kernel_rfl))
  have h0 := hf 0 _ rfl
  have h1 := hf 1 _ rfl
  have h2 := hf 2 _ rfl
  have h3 := hf 3 _ rfl
  have n3 : Try.prog.cellsOf 3 = 1 := by kernel_rfl
  have n4 : Try.prog.cellsOf 4 = 1 := by kernel_rfl
  simp at hlen
  rw [List.getElem?_eq_getElem (by omega)] at h0 h1 h2 h3
  simp [n3, n4] at h0 h1 h2 h3
  obtain ⟨k, rfl, a⟩ := cell_int Try.underlying3 h0
  obtain ⟨c, rfl, b⟩ := cell_int Try.underlying3 h1
  obtain ⟨s, rfl⟩ := cell_bool Try.underlying4 h2
  obtain ⟨t, rfl⟩ := cell_bool Try.underlying4 h3
  exact ⟨k, c, s, t, rfl, a, b⟩
theorem read_key {r : Reach} {b0 : Nat} {v : Value} {d : DataW H} {p : List MemPlace} (hv : Value.okWide Try.prog w r b0 23 v) (h : DataW.Trod enc Try.prog w base spare held 23 v d p) :
    ∃ (k c : Int) (s t : Bool), v = .agg #[.int .i64 k, .int .i64 c, .bool s, .bool t] ∧ I64 k ∧ I64 c := by
  obtain ⟨cs, rfl, hs⟩ := okWide_struct Try.underlying23 hv
  obtain ⟨fuel, hf⟩ := h
  obtain ⟨k, c, s, t, e, a, b⟩ := key_cells hf
  refine ⟨k, c, s, t, ?_, a, b⟩
  simp [Value.cells] at e
  obtain ⟨cl⟩ := cs
  simp at e
  rw [e]
theorem read_keys2 {r : Reach} {b0 : Nat} {v : Value} {d : DataW H} {p : List MemPlace} (hv : Value.okWide Try.prog w r b0 31 v) (h : DataW.Trod enc Try.prog w base spare held 31 v d p) :
    ∃ (k c : Int) (s t : Bool) (k' c' : Int) (s' t' : Bool), v = .agg #[.int .i64 k, .int .i64 c, .bool s, .bool t, .int .i64 k', .int .i64 c', .bool s', .bool t'] ∧ I64 k ∧ I64 c ∧ I64 k' ∧ I64 c' := by
  obtain ⟨cs, rfl, hs⟩ := okWide_array Try.underlying31 hv
  obtain ⟨fuel, hf⟩ := h
  obtain ⟨xs, m, _, _, hcl, hl, hx⟩ := DataW.trod_array Try.underlying31 hf
  have h0 := hx 0 (by omega)
  have h1 := hx 1 (by omega)
  have n23 : Try.prog.cellsOf 23 = 4 := by kernel_rfl
  have n31 : Try.prog.cellsOf 31 = 8 := by kernel_rfl
  rw [List.getElem?_eq_getElem (by omega)] at h0 h1
  simp only [n23, Nat.zero_mul, Nat.one_mul, List.drop_zero] at h0 h1
  obtain ⟨k, c, s, t, e, a1, a2⟩ := key_cells h0
  obtain ⟨k', c', s', t', e', b1, b2⟩ := key_cells h1
  refine ⟨k, c, s, t, k', c', s', t', ?_, a1, a2, b1, b2⟩
  obtain ⟨cl⟩ := cs
  simp [Value.cells] at e e' hs
  have : cl = cl.take 4 ++ (cl.drop 4).take 4 := by
    rw [List.take_of_length_le (l := cl.drop 4) (by simp; omega), List.take_append_drop]
  rw [e, e'] at this
  rw [this]
  rfl
theorem own : ownKnob Try.prog.godebug = none := by kernel_rfl
theorem laidOut : laidOutB Try.prog = true := by kernel_rfl
end Go.Proofs.Ytkenihkfjepdfaa
