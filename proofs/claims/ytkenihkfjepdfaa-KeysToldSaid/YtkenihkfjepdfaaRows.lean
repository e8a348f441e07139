/-
  No cell of these rows narrows 'for every input' (looked for: loops, veiled, ifaces, maps, wideKeys, modest, calm, conditions, laid).
  DERIVED. THE GIVEN ROWS OF THIS SEAT. 6 by the template 'for every input the law returns true; each argument reads behind the call as it read before'; 0 by the template 'total and deterministic' (their statements: YtkenihkfjepdfaaTotals.lean).
  GIVEN WITH THE SEED: the statements are not yours to turn. If you find one false, say at which input.
  Laid BY PROGRAM, IN A SANDBOX (cutbox-rows.mjs): the forced cells as the released guide's own fill.sh prints them over the translation 0c4bf23c23be50cc… (all of the seat's roots in one cut). By AI agents, Wed Nov 11 2026. No macro, syntax, notation, axiom, sorry.
-/
import Derived.Test.YtkenihkfjepdfaaChecked
import GoSem.Claim
import GoSem.ClaimJoined
import GoSem.ClaimMapViews
import Derived.JoinedTies
import Derived.KernelRfl
namespace Go.Proofs.Ytkenihkfjepdfaa
/- THE CELL 'sum', in the pinned program and in every row, IS THE sha256 OF THE DUMP (.gsa) THAT YtkenihkfjepdfaaProg.lean LOADS. Nothing in Lean hashes anything: it is a label: what it is worth is what the hold of that sum in a sandbox is worth. -/
noncomputable def Try.pinned : Pinned := { name := "ytkenihkfjepdfaa", sum := "0c4bf23c23be50cce436c04561dcf42a79375ad03c37fc568d877f7a12ed71a4", checked := Try.checked }
namespace Rows
def none {H : Type} : Left H := { results := [], args := [] }

/-- 'vizardlaw19.KeysSends': WHATEVER THE INPUT: true; the input reads as it did. -/
def keysSendsSpec : ChangeSpec := { name := "keysSends", fn := fun _ => fun
  | [d1, d2, d3] => { results := [.lit (.bool true)], args := [d1, d2, d3] }
  | _ => none }
def keysSendsRow : OpenClaim := { program := "ytkenihkfjepdfaa", sum := "0c4bf23c23be50cce436c04561dcf42a79375ad03c37fc568d877f7a12ed71a4", func := "vizard/vizardlaw19.KeysSends", spec := "keysSends", unfollowed := true, recurses := true, plainKeys := false, apart := false }
def KeysSendsSaid : Prop := keysSendsRow.holds Try.pinned (OpenSpec.ofChange keysSendsSpec)

/-- ITS FALSE NEIGHBOUR: 'it returns false'. Refute it at one input. -/
def keysSendsWrong : ChangeSpec := { name := "keysSends", fn := fun _ => fun
  | [d1, d2, d3] => { results := [.lit (.bool false)], args := [d1, d2, d3] }
  | _ => none }
def KeysSendsWrongFalsely : Prop := keysSendsRow.holds Try.pinned (OpenSpec.ofChange keysSendsWrong)

/-- 'vizardlaw19.KeysApart': WHATEVER THE INPUT: true; the input reads as it did. -/
def keysApartSpec : ChangeSpec := { name := "keysApart", fn := fun _ => fun
  | [d1, d2, d3] => { results := [.lit (.bool true)], args := [d1, d2, d3] }
  | _ => none }
def keysApartRow : OpenClaim := { program := "ytkenihkfjepdfaa", sum := "0c4bf23c23be50cce436c04561dcf42a79375ad03c37fc568d877f7a12ed71a4", func := "vizard/vizardlaw19.KeysApart", spec := "keysApart", unfollowed := true, recurses := true, plainKeys := false, apart := false }
def KeysApartSaid : Prop := keysApartRow.holds Try.pinned (OpenSpec.ofChange keysApartSpec)

/-- ITS FALSE NEIGHBOUR: 'it returns false'. Refute it at one input. -/
def keysApartWrong : ChangeSpec := { name := "keysApart", fn := fun _ => fun
  | [d1, d2, d3] => { results := [.lit (.bool false)], args := [d1, d2, d3] }
  | _ => none }
def KeysApartWrongFalsely : Prop := keysApartRow.holds Try.pinned (OpenSpec.ofChange keysApartWrong)

/-- 'vizardlaw19.KeysPlain': WHATEVER THE INPUT: true; the input reads as it did. -/
def keysPlainSpec : ChangeSpec := { name := "keysPlain", fn := fun _ => fun
  | [d1, d2, d3] => { results := [.lit (.bool true)], args := [d1, d2, d3] }
  | _ => none }
def keysPlainRow : OpenClaim := { program := "ytkenihkfjepdfaa", sum := "0c4bf23c23be50cce436c04561dcf42a79375ad03c37fc568d877f7a12ed71a4", func := "vizard/vizardlaw19.KeysPlain", spec := "keysPlain", unfollowed := true, recurses := true, plainKeys := false, apart := false }
def KeysPlainSaid : Prop := keysPlainRow.holds Try.pinned (OpenSpec.ofChange keysPlainSpec)

/-- ITS FALSE NEIGHBOUR: 'it returns false'. Refute it at one input. -/
def keysPlainWrong : ChangeSpec := { name := "keysPlain", fn := fun _ => fun
  | [d1, d2, d3] => { results := [.lit (.bool false)], args := [d1, d2, d3] }
  | _ => none }
def KeysPlainWrongFalsely : Prop := keysPlainRow.holds Try.pinned (OpenSpec.ofChange keysPlainWrong)

/-- 'vizardlaw19.KeysCtrl': WHATEVER THE INPUT: true; the input reads as it did. -/
def keysCtrlSpec : ChangeSpec := { name := "keysCtrl", fn := fun _ => fun
  | [d1, d2, d3] => { results := [.lit (.bool true)], args := [d1, d2, d3] }
  | _ => none }
def keysCtrlRow : OpenClaim := { program := "ytkenihkfjepdfaa", sum := "0c4bf23c23be50cce436c04561dcf42a79375ad03c37fc568d877f7a12ed71a4", func := "vizard/vizardlaw19.KeysCtrl", spec := "keysCtrl", unfollowed := true, recurses := true, plainKeys := false, apart := false }
def KeysCtrlSaid : Prop := keysCtrlRow.holds Try.pinned (OpenSpec.ofChange keysCtrlSpec)

/-- ITS FALSE NEIGHBOUR: 'it returns false'. Refute it at one input. -/
def keysCtrlWrong : ChangeSpec := { name := "keysCtrl", fn := fun _ => fun
  | [d1, d2, d3] => { results := [.lit (.bool false)], args := [d1, d2, d3] }
  | _ => none }
def KeysCtrlWrongFalsely : Prop := keysCtrlRow.holds Try.pinned (OpenSpec.ofChange keysCtrlWrong)

/-- 'vizardlaw19.KeysAll': WHATEVER THE INPUT: true; the input reads as it did. -/
def keysAllSpec : ChangeSpec := { name := "keysAll", fn := fun _ => fun
  | [d1, d2] => { results := [.lit (.bool true)], args := [d1, d2] }
  | _ => none }
def keysAllRow : OpenClaim := { program := "ytkenihkfjepdfaa", sum := "0c4bf23c23be50cce436c04561dcf42a79375ad03c37fc568d877f7a12ed71a4", func := "vizard/vizardlaw19.KeysAll", spec := "keysAll", unfollowed := true, recurses := true, plainKeys := false, apart := false }
def KeysAllSaid : Prop := keysAllRow.holds Try.pinned (OpenSpec.ofChange keysAllSpec)

/-- ITS FALSE NEIGHBOUR: 'it returns false'. Refute it at one input. -/
def keysAllWrong : ChangeSpec := { name := "keysAll", fn := fun _ => fun
  | [d1, d2] => { results := [.lit (.bool false)], args := [d1, d2] }
  | _ => none }
def KeysAllWrongFalsely : Prop := keysAllRow.holds Try.pinned (OpenSpec.ofChange keysAllWrong)

/-- 'vizardlaw19.KeysTold': WHATEVER THE INPUT: true; the input reads as it did. -/
def keysToldSpec : ChangeSpec := { name := "keysTold", fn := fun _ => fun
  | [d1, d2, d3] => { results := [.lit (.bool true)], args := [d1, d2, d3] }
  | _ => none }
def keysToldRow : OpenClaim := { program := "ytkenihkfjepdfaa", sum := "0c4bf23c23be50cce436c04561dcf42a79375ad03c37fc568d877f7a12ed71a4", func := "vizard/vizardlaw19.KeysTold", spec := "keysTold", unfollowed := true, recurses := true, plainKeys := false, apart := false }
def KeysToldSaid : Prop := keysToldRow.holds Try.pinned (OpenSpec.ofChange keysToldSpec)

/-- ITS FALSE NEIGHBOUR: 'it returns false'. Refute it at one input. -/
def keysToldWrong : ChangeSpec := { name := "keysTold", fn := fun _ => fun
  | [d1, d2, d3] => { results := [.lit (.bool false)], args := [d1, d2, d3] }
  | _ => none }
def KeysToldWrongFalsely : Prop := keysToldRow.holds Try.pinned (OpenSpec.ofChange keysToldWrong)

/- THE SECOND FORM. 'bulk': how many values and letters a reading holds, each counted each time it is reached (what is shared counts as often as it is met; a slice's spare places count too). A statement '..UptoSaid' is the law's where the arguments, and the package variables that the reading takes, are together of bulk at most 1048576: NARROWER than '..Said'. Prove '..Said' where nothing that the law and all that it calls make is longer than what came in: it says more and counts as full. Else prove '..UptoSaid'. A law counts once. -/
mutual
def uptoBulk {H : Type} : DataW H → Nat
  | .lit (.string bytes) => bytes.length + 1
  | .lit _ => 1
  | .nil => 1
  | .ptr d => uptoBulk d + 1
  | .slice elems spare => uptoBulkAll elems + uptoBulkAll spare + 1
  | .agg parts => uptoBulkAll parts + 1
  | .iface _ d => uptoBulk d + 1
  | .map entries => uptoBulkEntries entries + 1
  | .held _ => 1
def uptoBulkAll {H : Type} : List (DataW H) → Nat
  | [] => 0
  | d :: r => uptoBulk d + uptoBulkAll r
def uptoBulkEntries {H : Type} : List (Lit × DataW H) → Nat
  | [] => 0
  | x :: r => uptoBulkEntry x + uptoBulkEntries r
def uptoBulkEntry {H : Type} : Lit × DataW H → Nat
  | (.string bytes, d) => bytes.length + uptoBulk d + 1
  | (_, d) => uptoBulk d + 1
 end
def uptoSmall : (H : Type) → List (DataW H) → Bool := fun _ ds => decide (uptoBulkAll ds ≤ 1048576)
def OpenSpec.upto (s : _root_.Go.ChangeSpec) : _root_.Go.OpenSpec := { _root_.Go.OpenSpec.ofChange s with cond := some uptoSmall }

/-- 'vizardlaw19.KeysSends', WHERE WHAT IT READS IS OF BULK AT MOST 1048576: true; the input reads as it did. -/
def keysSendsUptoRow : OpenClaim := { program := "ytkenihkfjepdfaa", sum := "0c4bf23c23be50cce436c04561dcf42a79375ad03c37fc568d877f7a12ed71a4", func := "vizard/vizardlaw19.KeysSends", spec := "keysSends", unfollowed := true, recurses := true, plainKeys := false, apart := false, narrowed := true }
def KeysSendsUptoSaid : Prop := keysSendsUptoRow.holds Try.pinned (OpenSpec.upto keysSendsSpec)

/-- 'vizardlaw19.KeysApart', WHERE WHAT IT READS IS OF BULK AT MOST 1048576: true; the input reads as it did. -/
def keysApartUptoRow : OpenClaim := { program := "ytkenihkfjepdfaa", sum := "0c4bf23c23be50cce436c04561dcf42a79375ad03c37fc568d877f7a12ed71a4", func := "vizard/vizardlaw19.KeysApart", spec := "keysApart", unfollowed := true, recurses := true, plainKeys := false, apart := false, narrowed := true }
def KeysApartUptoSaid : Prop := keysApartUptoRow.holds Try.pinned (OpenSpec.upto keysApartSpec)

/-- 'vizardlaw19.KeysPlain', WHERE WHAT IT READS IS OF BULK AT MOST 1048576: true; the input reads as it did. -/
def keysPlainUptoRow : OpenClaim := { program := "ytkenihkfjepdfaa", sum := "0c4bf23c23be50cce436c04561dcf42a79375ad03c37fc568d877f7a12ed71a4", func := "vizard/vizardlaw19.KeysPlain", spec := "keysPlain", unfollowed := true, recurses := true, plainKeys := false, apart := false, narrowed := true }
def KeysPlainUptoSaid : Prop := keysPlainUptoRow.holds Try.pinned (OpenSpec.upto keysPlainSpec)

/-- 'vizardlaw19.KeysCtrl', WHERE WHAT IT READS IS OF BULK AT MOST 1048576: true; the input reads as it did. -/
def keysCtrlUptoRow : OpenClaim := { program := "ytkenihkfjepdfaa", sum := "0c4bf23c23be50cce436c04561dcf42a79375ad03c37fc568d877f7a12ed71a4", func := "vizard/vizardlaw19.KeysCtrl", spec := "keysCtrl", unfollowed := true, recurses := true, plainKeys := false, apart := false, narrowed := true }
def KeysCtrlUptoSaid : Prop := keysCtrlUptoRow.holds Try.pinned (OpenSpec.upto keysCtrlSpec)

/-- 'vizardlaw19.KeysAll', WHERE WHAT IT READS IS OF BULK AT MOST 1048576: true; the input reads as it did. -/
def keysAllUptoRow : OpenClaim := { program := "ytkenihkfjepdfaa", sum := "0c4bf23c23be50cce436c04561dcf42a79375ad03c37fc568d877f7a12ed71a4", func := "vizard/vizardlaw19.KeysAll", spec := "keysAll", unfollowed := true, recurses := true, plainKeys := false, apart := false, narrowed := true }
def KeysAllUptoSaid : Prop := keysAllUptoRow.holds Try.pinned (OpenSpec.upto keysAllSpec)

/-- 'vizardlaw19.KeysTold', WHERE WHAT IT READS IS OF BULK AT MOST 1048576: true; the input reads as it did. -/
def keysToldUptoRow : OpenClaim := { program := "ytkenihkfjepdfaa", sum := "0c4bf23c23be50cce436c04561dcf42a79375ad03c37fc568d877f7a12ed71a4", func := "vizard/vizardlaw19.KeysTold", spec := "keysTold", unfollowed := true, recurses := true, plainKeys := false, apart := false, narrowed := true }
def KeysToldUptoSaid : Prop := keysToldUptoRow.holds Try.pinned (OpenSpec.upto keysToldSpec)

end Rows
end Go.Proofs.Ytkenihkfjepdfaa
