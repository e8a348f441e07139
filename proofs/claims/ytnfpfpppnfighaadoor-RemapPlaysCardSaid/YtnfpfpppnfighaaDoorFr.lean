/- How the arguments of the laws are read: small openers; what the listed variables give; one start that fits. -/
import Derived.Test.YtnfpfpppnfighaaDoorRows
import Derived.Test.YtnfpfpppnfighaaDoorRB
import Derived.WalkKit
import Derived.ProofKit
import Derived.OpenShut
import Derived.ShutString
import Derived.ChangeOld
import Derived.Below
import Derived.Lib.SmallJoins
import Derived.LaidMore
import Derived.Stop.Joined
import Derived.Lib.LaidTab
import Derived.Stop.LaidErr
namespace Go.Proofs.YtnfpfpppnfighaaDoor
open Go.ChangeShapes Go.WideShapes Go.ChangeAt Go.RowKit Go.Joins
set_option maxRecDepth 100000
variable {H : Type} {enc : TypeId × Value → H} {P : Program} {w : World} {base : Nat} {spare : Nat → Bool} {held : Bool}

theorem okWide_array {r : Reach} {b0 n : Nat} {t e : TypeId} {v : Value} (ht : P.underlying t = some (.array n e)) (h : Value.okWide P w r b0 t v) : ∃ cs, v = .agg cs ∧ cs.size = P.cellsOf t := by
  unfold Value.okWide at h
  rw [ht] at h
  obtain ⟨cs, h1, h2, _⟩ := h
  exact ⟨cs, h1, h2⟩
theorem i64_bd {n : Int} (h : (Lit.int .i64 n).wf = true) : -9223372036854775808 ≤ n ∧ n ≤ 9223372036854775807 := by
  simp [Lit.wf, IntKind.min, IntKind.max, IntKind.bits, IntKind.signed] at h
  omega
/-- An int. -/
theorem read_int {r : Reach} {b0 : Nat} {t : TypeId} {v : Value} {d : DataW H} {p : List MemPlace} (ht : P.underlying t = some (.int .i64)) (hv : Value.okWide P w r b0 t v) (h : DataW.Trod enc P w base spare held t v d p) :
    ∃ n : Int, v = .int .i64 n ∧ -9223372036854775808 ≤ n ∧ n ≤ 9223372036854775807 := by
  obtain ⟨n, hv, _, _, hw⟩ := open_int ht hv h
  exact ⟨n, hv, i64_bd hw⟩
theorem read_bool {r : Reach} {b0 : Nat} {t : TypeId} {v : Value} {d : DataW H} {p : List MemPlace} (ht : P.underlying t = some .bool) (hv : Value.okWide P w r b0 t v) (h : DataW.Trod enc P w base spare held t v d p) :
    ∃ b : Bool, v = .bool b := by
  obtain ⟨n, hv, _, _⟩ := open_bool ht hv h
  exact ⟨n, hv⟩
theorem cell_int {t : TypeId} {fuel : Nat} {c : Value} {x : DataW H × List MemPlace} (ht : P.underlying t = some (.int .i64)) (h : DataW.trod enc P w base spare held fuel t [c] = some x) :
    ∃ n : Int, c = .int .i64 n ∧ -9223372036854775808 ≤ n ∧ n ≤ 9223372036854775807 := by
  obtain ⟨n, h1, _, hw⟩ := DataW.trod_int ht h
  simp at h1
  exact ⟨n, h1, i64_bd hw⟩
theorem cell_bool {t : TypeId} {fuel : Nat} {c : Value} {x : DataW H × List MemPlace} (ht : P.underlying t = some .bool) (h : DataW.trod enc P w base spare held fuel t [c] = some x) :
    ∃ b : Bool, c = .bool b := by
  obtain ⟨n, h1, _⟩ := DataW.trod_bool ht h
  simp at h1
  exact ⟨n, h1⟩
theorem four {α : Type} {l : List α} (h : l.length = 4) : ∃ a b c d, l = [a, b, c, d] := by
  match l, h with
  | [a, b, c, d], _ => exact ⟨a, b, c, d, rfl⟩

theorem cell_string {t : TypeId} {fuel : Nat} {c : Value} {x : DataW H × List MemPlace} (ht : P.underlying t = some .string) (h : DataW.trod enc P w base spare held fuel t [c] = some x) :
    ∃ l : List UInt8, c = .string (st l) ∧ l.length ≤ 9223372036854775807 := by
  obtain ⟨s, h1, _, hs⟩ := DataW.trod_string ht h
  simp at h1
  refine ⟨s.data.toList, by rw [h1, ← st_of], ?_⟩
  have e : s.data.toList.length = s.size := Array.length_toList
  unfold maxLen at hs
  omega
theorem two_of {α : Type} {l : List α} (h : l.length = 2) : ∃ a b, l = [a, b] := by
  match l, h with
  | [a, b], _ => exact ⟨a, b, rfl⟩
theorem code_cells {fuel : Nat} {cs : List Value} {x : DataW H × List MemPlace} (h : DataW.trod enc Tryd.prog w base spare held fuel 24 cs = some x) :
    ∃ (e : Bool) (n : Int), cs = [.bool e, .int .i64 n] ∧ -9223372036854775808 ≤ n ∧ n ≤ 9223372036854775807 := by
  obtain ⟨xs, m, _, rfl, hl, hlen, hf⟩ := DataW.trod_struct Tryd.underlying24 h
  obtain ⟨c0, c1, rfl⟩ := two_of (hl.trans (by kernel_rfl))
  have h0 := hf 0 _ rfl
  have h1 := hf 1 _ rfl
  have n3 : Tryd.prog.cellsOf 3 = 1 := by kernel_rfl
  have n4 : Tryd.prog.cellsOf 4 = 1 := by kernel_rfl
  simp at hlen
  rw [List.getElem?_eq_getElem (by omega)] at h0 h1
  simp [n3, n4] at h0 h1
  obtain ⟨e, rfl⟩ := cell_bool Tryd.underlying4 h0
  obtain ⟨n, rfl, b0, b1⟩ := cell_int Tryd.underlying3 h1
  exact ⟨e, n, rfl, b0, b1⟩
theorem op_cells {fuel : Nat} {cs : List Value} {x : DataW H × List MemPlace} (h : DataW.trod enc Tryd.prog w base spare held fuel 39 cs = some x) :
    ∃ (a : Int) (e : Bool) (n : Int) (t : List UInt8), cs = [.int .i64 a, .bool e, .int .i64 n, .string (st t)] ∧ (-9223372036854775808 ≤ n ∧ n ≤ 9223372036854775807) ∧ t.length ≤ 9223372036854775807 := by
  obtain ⟨xs, m, _, rfl, hl, hlen, hf⟩ := DataW.trod_struct Tryd.underlying39 h
  obtain ⟨c0, c1, c2, c3, rfl⟩ := four (hl.trans (by kernel_rfl))
  have h0 := hf 0 _ rfl
  have h1 := hf 1 _ rfl
  have h2 := hf 2 _ rfl
  have n3 : Tryd.prog.cellsOf 3 = 1 := by kernel_rfl
  have n24 : Tryd.prog.cellsOf 24 = 2 := by kernel_rfl
  have n9 : Tryd.prog.cellsOf 9 = 1 := by kernel_rfl
  simp at hlen
  rw [List.getElem?_eq_getElem (by omega)] at h0 h1 h2
  simp [n3, n24, n9] at h0 h1 h2
  obtain ⟨a, rfl, _⟩ := cell_int Tryd.underlying3 h0
  obtain ⟨e, n, e1, b⟩ := code_cells h1
  simp at e1
  obtain ⟨rfl, rfl⟩ := e1
  obtain ⟨t, rfl, bt⟩ := cell_string Tryd.underlying9 h2
  exact ⟨a, e, n, t, rfl, b, bt⟩
theorem read_op {r : Reach} {b0 : Nat} {v : Value} {d : DataW H} {p : List MemPlace} (hv : Value.okWide Tryd.prog w r b0 39 v) (h : DataW.Trod enc Tryd.prog w base spare held 39 v d p) :
    ∃ (a : Int) (e : Bool) (n : Int) (t : List UInt8), v = opV a e n t ∧ (-9223372036854775808 ≤ n ∧ n ≤ 9223372036854775807) ∧ t.length ≤ 9223372036854775807 := by
  obtain ⟨cs, rfl, hs⟩ := okWide_struct Tryd.underlying39 hv
  obtain ⟨fuel, hf⟩ := h
  obtain ⟨a, e, n, t, e1, b, bt⟩ := op_cells hf
  refine ⟨a, e, n, t, ?_, b, bt⟩
  simp [Value.cells] at e1
  obtain ⟨cl⟩ := cs
  simp at e1
  unfold opV
  rw [e1]
theorem read_code {r : Reach} {b0 : Nat} {v : Value} {d : DataW H} {p : List MemPlace} (hv : Value.okWide Tryd.prog w r b0 24 v) (h : DataW.Trod enc Tryd.prog w base spare held 24 v d p) :
    ∃ (e : Bool) (n : Int), v = .agg #[.bool e, .int .i64 n] ∧ (-9223372036854775808 ≤ n ∧ n ≤ 9223372036854775807) := by
  obtain ⟨cs, rfl, hs⟩ := okWide_struct Tryd.underlying24 hv
  obtain ⟨fuel, hf⟩ := h
  obtain ⟨e, n, e1, b⟩ := code_cells hf
  refine ⟨e, n, ?_, b⟩
  simp [Value.cells] at e1
  obtain ⟨cl⟩ := cs
  simp at e1
  rw [e1]
theorem read_str {r : Reach} {b0 : Nat} {v : Value} {d : DataW H} {p : List MemPlace} (hv : Value.okWide Tryd.prog w r b0 9 v) (h : DataW.Trod enc Tryd.prog w base spare held 9 v d p) :
    ∃ l : List UInt8, v = .string (st l) ∧ l.length ≤ 9223372036854775807 := by
  obtain ⟨s, rfl⟩ := okWide_string Tryd.underlying9 hv
  obtain ⟨fuel, hf⟩ := h
  exact cell_string Tryd.underlying9 hf
theorem own : ownKnob Tryd.prog.godebug = none := by kernel_rfl
theorem laidOut : laidOutB Tryd.prog = true := by kernel_rfl
/-- What the rows list. -/
abbrev laid5 : List (String × DataW Unit) := Rows.remapReadsRow.laid
/-- One start that fits: the heap that the program's own laying leaves. -/
theorem door_met (os : Os) (args : Array Value) : laidMetH Tryd.prog laid5 ((World.doorLaid Tryd.prog 62 os).forCall (fun _ _ => 0) ⟨#[], args, []⟩).memory :=
  laidMetH_of_parts3 (fuel := 8) (laidMet_of_run' 8 (by kernel_rfl) (by kernel_rfl)) (by kernel_rfl) (by kernel_rfl)
theorem gPow : Tryd.prog.globalNamed "internal/strconv.uint64pow10" = some 0 := by kernel_rfl
theorem gPowType : (Tryd.prog.globals[0]?).map (·.type) = some 140 := by kernel_rfl
theorem tab_of_laid {W : World} (h : laidMetH Tryd.prog laid5 W) : Tab W := by
  rw [MakeChecks.laidMetH_plain _ _ _ (by kernel_rfl)] at h
  have h3 : laidMet Tryd.prog (("internal/strconv.uint64pow10", Lib.tabData .u64 Lib.pow10Tab) :: laid5.tail.tail.tail) W := laidMet.tail (laidMet.tail h)
  exact Lib.tabIs_of_head gPow gPowType Tryd.underlying140 Tryd.underlying117 (by kernel_rfl) (by kernel_rfl) h3
end Go.Proofs.YtnfpfpppnfighaaDoor
