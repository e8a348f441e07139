/- How the arguments of the laws are read: small openers. -/
import Derived.Test.YtpjodppcedkneaaRows
import Derived.WalkKit
import Derived.ProofKit
import Derived.OpenShut
import Derived.ShutString
import Derived.Deep.Slices
import Derived.ChangeOld
import Derived.Below
import Derived.Lib.SmallJoins
namespace Go.Proofs.Ytpjodppcedkneaa
open Go.Deep
open Go.ChangeShapes Go.WideShapes Go.ChangeAt Go.RowKit Go.Joins
variable {H : Type} {enc : TypeId × Value → H} {P : Program} {w : World} {base : Nat} {spare : Nat → Bool} {held : Bool}

theorem okWide_array {r : Reach} {b0 n : Nat} {t e : TypeId} {v : Value} (ht : P.underlying t = some (.array n e)) (h : Value.okWide P w r b0 t v) : ∃ cs, v = .agg cs ∧ cs.size = P.cellsOf t := by
  unfold Value.okWide at h
  rw [ht] at h
  obtain ⟨cs, h1, h2, _⟩ := h
  exact ⟨cs, h1, h2⟩
theorem i64_bd {n : Int} (h : (Lit.int .i64 n).wf = true) : -9223372036854775808 ≤ n ∧ n ≤ 9223372036854775807 := by
  simp [Lit.wf, IntKind.min, IntKind.max, IntKind.bits, IntKind.signed] at h
  omega
/-- An int. -/
theorem read_int {r : Reach} {b0 : Nat} {t : TypeId} {v : Value} {d : DataW H} {p : List MemPlace} (ht : P.underlying t = some (.int .i64)) (hv : Value.okWide P w r b0 t v) (h : DataW.Trod enc P w base spare held t v d p) :
    ∃ n : Int, v = .int .i64 n ∧ -9223372036854775808 ≤ n ∧ n ≤ 9223372036854775807 := by
  obtain ⟨n, hv, _, _, hw⟩ := open_int ht hv h
  exact ⟨n, hv, i64_bd hw⟩
theorem read_bool {r : Reach} {b0 : Nat} {t : TypeId} {v : Value} {d : DataW H} {p : List MemPlace} (ht : P.underlying t = some .bool) (hv : Value.okWide P w r b0 t v) (h : DataW.Trod enc P w base spare held t v d p) :
    ∃ b : Bool, v = .bool b := by
  obtain ⟨n, hv, _, _⟩ := open_bool ht hv h
  exact ⟨n, hv⟩
theorem cell_int {t : TypeId} {fuel : Nat} {c : Value} {x : DataW H × List MemPlace} (ht : P.underlying t = some (.int .i64)) (h : DataW.trod enc P w base spare held fuel t [c] = some x) :
    ∃ n : Int, c = .int .i64 n ∧ -9223372036854775808 ≤ n ∧ n ≤ 9223372036854775807 := by
  obtain ⟨n, h1, _, hw⟩ := DataW.trod_int ht h
  simp at h1
  exact ⟨n, h1, i64_bd hw⟩
theorem cell_bool {t : TypeId} {fuel : Nat} {c : Value} {x : DataW H × List MemPlace} (ht : P.underlying t = some .bool) (h : DataW.trod enc P w base spare held fuel t [c] = some x) :
    ∃ b : Bool, c = .bool b := by
  obtain ⟨n, h1, _⟩ := DataW.trod_bool ht h
  simp at h1
  exact ⟨n, h1⟩
theorem four {α : Type} {l : List α} (h : l.length = 4) : ∃ a b c d, l = [a, b, c, d] := by
  match l, h with
  | [a, b, c, d], _ => exact ⟨a, b, c, d, rfl⟩
theorem cell_slice {fuel : Nat} {c : Value} {x : DataW H × List MemPlace} (h : DataW.trod enc Try.prog w base spare held fuel 22 [c] = some x) : ∃ (ad : Option Addr) (len cap : Nat), c = .slice ad len cap := by
  rcases open_slice1 Try.underlying22 (by kernel_rfl) h with ⟨h1, _⟩ | ⟨a, len, cap, m, n, V, D, Pl, h1, _⟩
  · simp at h1
    exact ⟨none, 0, 0, h1⟩
  · simp at h1
    exact ⟨some a, len, cap, h1⟩
theorem op_cells {fuel : Nat} {cs : List Value} {x : DataW H × List MemPlace}
    (h : DataW.trod enc Try.prog w base spare held fuel 40 cs = some x) : ∃ (a n m : Int) (ad : Option Addr) (len cap : Nat), cs = [.int .i64 a, .int .i64 n, .int .i64 m, .slice ad len cap] ∧ -9223372036854775808 ≤ m ∧ m ≤ 9223372036854775807 := by
  obtain ⟨xs, m, _, rfl, hl, hlen, hf⟩ := DataW.trod_struct Try.underlying40 h
  obtain ⟨c0, c1, c2, c3, rfl⟩ := four (hl.trans (by kernel_rfl))
  have h0 := hf 0 _ rfl
  have h1 := hf 1 _ rfl
  have h2 := hf 2 _ rfl
  have h3 := hf 3 _ rfl
  have n3 : Try.prog.cellsOf 3 = 1 := by kernel_rfl
  have n22 : Try.prog.cellsOf 22 = 1 := by kernel_rfl
  simp at hlen
  rw [List.getElem?_eq_getElem (by omega)] at h0 h1 h2 h3
  simp [n3, n22] at h0 h1 h2 h3
  obtain ⟨k, rfl, _⟩ := cell_int Try.underlying3 h0
  obtain ⟨c, rfl, _⟩ := cell_int Try.underlying3 h1
  obtain ⟨s, rfl, b0, b1⟩ := cell_int Try.underlying3 h2
  obtain ⟨ad, len, cap, rfl⟩ := cell_slice h3
  exact ⟨k, c, s, ad, len, cap, rfl, b0, b1⟩
theorem read_op {r : Reach} {b0 : Nat} {v : Value} {d : DataW H} {p : List MemPlace} (hv : Value.okWide Try.prog w r b0 40 v) (h : DataW.Trod enc Try.prog w base spare held 40 v d p) :
    ∃ (a n m : Int) (ad : Option Addr) (len cap : Nat), v = .agg #[.int .i64 a, .int .i64 n, .int .i64 m, .slice ad len cap] ∧ -9223372036854775808 ≤ m ∧ m ≤ 9223372036854775807 := by
  obtain ⟨cs, rfl, hs⟩ := okWide_struct Try.underlying40 hv
  obtain ⟨fuel, hf⟩ := h
  obtain ⟨a, n, m, ad, len, cap, e, b0, b1⟩ := op_cells hf
  refine ⟨a, n, m, ad, len, cap, ?_, b0, b1⟩
  simp [Value.cells] at e
  obtain ⟨cl⟩ := cs
  simp at e
  rw [e]
theorem own : ownKnob Try.prog.godebug = none := by kernel_rfl
theorem laidOut : laidOutB Try.prog = true := by kernel_rfl
end Go.Proofs.Ytpjodppcedkneaa
