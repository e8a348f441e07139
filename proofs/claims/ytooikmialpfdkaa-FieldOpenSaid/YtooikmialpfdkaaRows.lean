/-
  No cell of these rows narrows 'for every input' (looked for: loops, veiled, ifaces, maps, wideKeys, modest, calm, conditions, laid).
  DERIVED. THE GIVEN ROWS OF THIS SEAT. 6 by the template 'for every input the law returns true; each argument reads behind the call as it read before'; 0 by the template 'total and deterministic' (their statements: YtooikmialpfdkaaTotals.lean).
  GIVEN WITH THE SEED: the statements are not yours to turn. If you find one false, say at which input.
  Laid BY PROGRAM, IN A SANDBOX (cutbox-rows.mjs): the forced cells as the released guide's own fill.sh prints them over the translation 0c0cfd43dab7060b… (all of the seat's roots in one cut). By AI agents, Wed Nov 11 2026. No macro, syntax, notation, axiom, sorry.
-/
import Derived.Test.YtooikmialpfdkaaChecked
import GoSem.Claim
import GoSem.ClaimJoined
import GoSem.ClaimMapViews
import Derived.JoinedTies
import Derived.KernelRfl
namespace Go.Proofs.Ytooikmialpfdkaa
/- THE CELL 'sum', in the pinned program and in every row, IS THE sha256 OF THE DUMP (.gsa) THAT YtooikmialpfdkaaProg.lean LOADS. Nothing in Lean hashes anything: it is a label: what it is worth is what the hold of that sum in a sandbox is worth. -/
noncomputable def Try.pinned : Pinned := { name := "ytooikmialpfdkaa", sum := "0c0cfd43dab7060bf5121018bbf0cdb3a5714863ec75ef9f602fdfe696f3f713", checked := Try.checked }
namespace Rows
def none {H : Type} : Left H := { results := [], args := [] }

/-- 'vizardlaw16.FieldParts': WHATEVER THE INPUT: true; the input reads as it did. -/
def fieldPartsSpec : ChangeSpec := { name := "fieldParts", fn := fun _ => fun
  | [d1, d2] => { results := [.lit (.bool true)], args := [d1, d2] }
  | _ => none }
def fieldPartsRow : OpenClaim := { program := "ytooikmialpfdkaa", sum := "0c0cfd43dab7060bf5121018bbf0cdb3a5714863ec75ef9f602fdfe696f3f713", func := "vizard/vizardlaw16.FieldParts", spec := "fieldParts", unfollowed := true, recurses := true, apart := false }
def FieldPartsSaid : Prop := fieldPartsRow.holds Try.pinned (OpenSpec.ofChange fieldPartsSpec)

/-- ITS FALSE NEIGHBOUR: 'it returns false'. Refute it at one input. -/
def fieldPartsWrong : ChangeSpec := { name := "fieldParts", fn := fun _ => fun
  | [d1, d2] => { results := [.lit (.bool false)], args := [d1, d2] }
  | _ => none }
def FieldPartsWrongFalsely : Prop := fieldPartsRow.holds Try.pinned (OpenSpec.ofChange fieldPartsWrong)

/-- 'vizardlaw16.FieldSends': WHATEVER THE INPUT: true; the input reads as it did. -/
def fieldSendsSpec : ChangeSpec := { name := "fieldSends", fn := fun _ => fun
  | [d1, d2, d3] => { results := [.lit (.bool true)], args := [d1, d2, d3] }
  | _ => none }
def fieldSendsRow : OpenClaim := { program := "ytooikmialpfdkaa", sum := "0c0cfd43dab7060bf5121018bbf0cdb3a5714863ec75ef9f602fdfe696f3f713", func := "vizard/vizardlaw16.FieldSends", spec := "fieldSends", unfollowed := true, recurses := true, apart := false }
def FieldSendsSaid : Prop := fieldSendsRow.holds Try.pinned (OpenSpec.ofChange fieldSendsSpec)

/-- ITS FALSE NEIGHBOUR: 'it returns false'. Refute it at one input. -/
def fieldSendsWrong : ChangeSpec := { name := "fieldSends", fn := fun _ => fun
  | [d1, d2, d3] => { results := [.lit (.bool false)], args := [d1, d2, d3] }
  | _ => none }
def FieldSendsWrongFalsely : Prop := fieldSendsRow.holds Try.pinned (OpenSpec.ofChange fieldSendsWrong)

/-- 'vizardlaw16.FieldOpen': WHATEVER THE INPUT: true; the input reads as it did. -/
def fieldOpenSpec : ChangeSpec := { name := "fieldOpen", fn := fun _ => fun
  | [d1, d2] => { results := [.lit (.bool true)], args := [d1, d2] }
  | _ => none }
def fieldOpenRow : OpenClaim := { program := "ytooikmialpfdkaa", sum := "0c0cfd43dab7060bf5121018bbf0cdb3a5714863ec75ef9f602fdfe696f3f713", func := "vizard/vizardlaw16.FieldOpen", spec := "fieldOpen", unfollowed := true, recurses := true, apart := false }
def FieldOpenSaid : Prop := fieldOpenRow.holds Try.pinned (OpenSpec.ofChange fieldOpenSpec)

/-- ITS FALSE NEIGHBOUR: 'it returns false'. Refute it at one input. -/
def fieldOpenWrong : ChangeSpec := { name := "fieldOpen", fn := fun _ => fun
  | [d1, d2] => { results := [.lit (.bool false)], args := [d1, d2] }
  | _ => none }
def FieldOpenWrongFalsely : Prop := fieldOpenRow.holds Try.pinned (OpenSpec.ofChange fieldOpenWrong)

/-- 'vizardlaw16.FieldWhole': WHATEVER THE INPUT: true; the input reads as it did. -/
def fieldWholeSpec : ChangeSpec := { name := "fieldWhole", fn := fun _ => fun
  | [d1, d2] => { results := [.lit (.bool true)], args := [d1, d2] }
  | _ => none }
def fieldWholeRow : OpenClaim := { program := "ytooikmialpfdkaa", sum := "0c0cfd43dab7060bf5121018bbf0cdb3a5714863ec75ef9f602fdfe696f3f713", func := "vizard/vizardlaw16.FieldWhole", spec := "fieldWhole", unfollowed := true, recurses := true, apart := false }
def FieldWholeSaid : Prop := fieldWholeRow.holds Try.pinned (OpenSpec.ofChange fieldWholeSpec)

/-- ITS FALSE NEIGHBOUR: 'it returns false'. Refute it at one input. -/
def fieldWholeWrong : ChangeSpec := { name := "fieldWhole", fn := fun _ => fun
  | [d1, d2] => { results := [.lit (.bool false)], args := [d1, d2] }
  | _ => none }
def FieldWholeWrongFalsely : Prop := fieldWholeRow.holds Try.pinned (OpenSpec.ofChange fieldWholeWrong)

/-- 'vizardlaw16.FieldTabs': WHATEVER THE INPUT: true; the input reads as it did. -/
def fieldTabsSpec : ChangeSpec := { name := "fieldTabs", fn := fun _ => fun
  | [d] => { results := [.lit (.bool true)], args := [d] }
  | _ => none }
def fieldTabsRow : OpenClaim := { program := "ytooikmialpfdkaa", sum := "0c0cfd43dab7060bf5121018bbf0cdb3a5714863ec75ef9f602fdfe696f3f713", func := "vizard/vizardlaw16.FieldTabs", spec := "fieldTabs", unfollowed := true, recurses := true, apart := false }
def FieldTabsSaid : Prop := fieldTabsRow.holds Try.pinned (OpenSpec.ofChange fieldTabsSpec)

/-- ITS FALSE NEIGHBOUR: 'it returns false'. Refute it at one input. -/
def fieldTabsWrong : ChangeSpec := { name := "fieldTabs", fn := fun _ => fun
  | [d] => { results := [.lit (.bool false)], args := [d] }
  | _ => none }
def FieldTabsWrongFalsely : Prop := fieldTabsRow.holds Try.pinned (OpenSpec.ofChange fieldTabsWrong)

/-- 'vizardlaw16.FieldAsks': WHATEVER THE INPUT: true; the input reads as it did. -/
def fieldAsksSpec : ChangeSpec := { name := "fieldAsks", fn := fun _ => fun
  | [d1, d2] => { results := [.lit (.bool true)], args := [d1, d2] }
  | _ => none }
def fieldAsksRow : OpenClaim := { program := "ytooikmialpfdkaa", sum := "0c0cfd43dab7060bf5121018bbf0cdb3a5714863ec75ef9f602fdfe696f3f713", func := "vizard/vizardlaw16.FieldAsks", spec := "fieldAsks", unfollowed := true, recurses := true, apart := false }
def FieldAsksSaid : Prop := fieldAsksRow.holds Try.pinned (OpenSpec.ofChange fieldAsksSpec)

/-- ITS FALSE NEIGHBOUR: 'it returns false'. Refute it at one input. -/
def fieldAsksWrong : ChangeSpec := { name := "fieldAsks", fn := fun _ => fun
  | [d1, d2] => { results := [.lit (.bool false)], args := [d1, d2] }
  | _ => none }
def FieldAsksWrongFalsely : Prop := fieldAsksRow.holds Try.pinned (OpenSpec.ofChange fieldAsksWrong)

/- THE SECOND FORM. 'bulk': how many values and letters a reading holds, each counted each time it is reached (what is shared counts as often as it is met; a slice's spare places count too). A statement '..UptoSaid' is the law's where the arguments, and the package variables that the reading takes, are together of bulk at most 1048576: NARROWER than '..Said'. Prove '..Said' where nothing that the law and all that it calls make is longer than what came in: it says more and counts as full. Else prove '..UptoSaid'. A law counts once. -/
mutual
def uptoBulk {H : Type} : DataW H → Nat
  | .lit (.string bytes) => bytes.length + 1
  | .lit _ => 1
  | .nil => 1
  | .ptr d => uptoBulk d + 1
  | .slice elems spare => uptoBulkAll elems + uptoBulkAll spare + 1
  | .agg parts => uptoBulkAll parts + 1
  | .iface _ d => uptoBulk d + 1
  | .map entries => uptoBulkEntries entries + 1
  | .held _ => 1
def uptoBulkAll {H : Type} : List (DataW H) → Nat
  | [] => 0
  | d :: r => uptoBulk d + uptoBulkAll r
def uptoBulkEntries {H : Type} : List (Lit × DataW H) → Nat
  | [] => 0
  | x :: r => uptoBulkEntry x + uptoBulkEntries r
def uptoBulkEntry {H : Type} : Lit × DataW H → Nat
  | (.string bytes, d) => bytes.length + uptoBulk d + 1
  | (_, d) => uptoBulk d + 1
 end
def uptoSmall : (H : Type) → List (DataW H) → Bool := fun _ ds => decide (uptoBulkAll ds ≤ 1048576)
def OpenSpec.upto (s : _root_.Go.ChangeSpec) : _root_.Go.OpenSpec := { _root_.Go.OpenSpec.ofChange s with cond := some uptoSmall }

/-- 'vizardlaw16.FieldParts', WHERE WHAT IT READS IS OF BULK AT MOST 1048576: true; the input reads as it did. -/
def fieldPartsUptoRow : OpenClaim := { program := "ytooikmialpfdkaa", sum := "0c0cfd43dab7060bf5121018bbf0cdb3a5714863ec75ef9f602fdfe696f3f713", func := "vizard/vizardlaw16.FieldParts", spec := "fieldParts", unfollowed := true, recurses := true, apart := false, narrowed := true }
def FieldPartsUptoSaid : Prop := fieldPartsUptoRow.holds Try.pinned (OpenSpec.upto fieldPartsSpec)

/-- 'vizardlaw16.FieldSends', WHERE WHAT IT READS IS OF BULK AT MOST 1048576: true; the input reads as it did. -/
def fieldSendsUptoRow : OpenClaim := { program := "ytooikmialpfdkaa", sum := "0c0cfd43dab7060bf5121018bbf0cdb3a5714863ec75ef9f602fdfe696f3f713", func := "vizard/vizardlaw16.FieldSends", spec := "fieldSends", unfollowed := true, recurses := true, apart := false, narrowed := true }
def FieldSendsUptoSaid : Prop := fieldSendsUptoRow.holds Try.pinned (OpenSpec.upto fieldSendsSpec)

/-- 'vizardlaw16.FieldOpen', WHERE WHAT IT READS IS OF BULK AT MOST 1048576: true; the input reads as it did. -/
def fieldOpenUptoRow : OpenClaim := { program := "ytooikmialpfdkaa", sum := "0c0cfd43dab7060bf5121018bbf0cdb3a5714863ec75ef9f602fdfe696f3f713", func := "vizard/vizardlaw16.FieldOpen", spec := "fieldOpen", unfollowed := true, recurses := true, apart := false, narrowed := true }
def FieldOpenUptoSaid : Prop := fieldOpenUptoRow.holds Try.pinned (OpenSpec.upto fieldOpenSpec)

/-- 'vizardlaw16.FieldWhole', WHERE WHAT IT READS IS OF BULK AT MOST 1048576: true; the input reads as it did. -/
def fieldWholeUptoRow : OpenClaim := { program := "ytooikmialpfdkaa", sum := "0c0cfd43dab7060bf5121018bbf0cdb3a5714863ec75ef9f602fdfe696f3f713", func := "vizard/vizardlaw16.FieldWhole", spec := "fieldWhole", unfollowed := true, recurses := true, apart := false, narrowed := true }
def FieldWholeUptoSaid : Prop := fieldWholeUptoRow.holds Try.pinned (OpenSpec.upto fieldWholeSpec)

/-- 'vizardlaw16.FieldTabs', WHERE WHAT IT READS IS OF BULK AT MOST 1048576: true; the input reads as it did. -/
def fieldTabsUptoRow : OpenClaim := { program := "ytooikmialpfdkaa", sum := "0c0cfd43dab7060bf5121018bbf0cdb3a5714863ec75ef9f602fdfe696f3f713", func := "vizard/vizardlaw16.FieldTabs", spec := "fieldTabs", unfollowed := true, recurses := true, apart := false, narrowed := true }
def FieldTabsUptoSaid : Prop := fieldTabsUptoRow.holds Try.pinned (OpenSpec.upto fieldTabsSpec)

/-- 'vizardlaw16.FieldAsks', WHERE WHAT IT READS IS OF BULK AT MOST 1048576: true; the input reads as it did. -/
def fieldAsksUptoRow : OpenClaim := { program := "ytooikmialpfdkaa", sum := "0c0cfd43dab7060bf5121018bbf0cdb3a5714863ec75ef9f602fdfe696f3f713", func := "vizard/vizardlaw16.FieldAsks", spec := "fieldAsks", unfollowed := true, recurses := true, apart := false, narrowed := true }
def FieldAsksUptoSaid : Prop := fieldAsksUptoRow.holds Try.pinned (OpenSpec.upto fieldAsksSpec)

end Rows
end Go.Proofs.Ytooikmialpfdkaa
