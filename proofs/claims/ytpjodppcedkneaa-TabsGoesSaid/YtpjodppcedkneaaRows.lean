/-
  No cell of these rows narrows 'for every input' (looked for: loops, veiled, ifaces, maps, wideKeys, modest, calm, conditions, laid).
  DERIVED. THE GIVEN ROWS OF THIS SEAT. 5 by the template 'for every input the law returns true; each argument reads behind the call as it read before'; 0 by the template 'total and deterministic' (their statements: YtpjodppcedkneaaTotals.lean).
  GIVEN WITH THE SEED: the statements are not yours to turn. If you find one false, say at which input.
  Laid BY PROGRAM, IN A SANDBOX (cutbox-rows.mjs): the forced cells as the released guide's own fill.sh prints them over the translation 97d77aeef9adf664… (all of the seat's roots in one cut). By AI agents, Wed Nov 11 2026. No macro, syntax, notation, axiom, sorry.
-/
import Derived.Test.YtpjodppcedkneaaChecked
import GoSem.Claim
import GoSem.ClaimJoined
import GoSem.ClaimMapViews
import Derived.JoinedTies
import Derived.KernelRfl
namespace Go.Proofs.Ytpjodppcedkneaa
/- THE CELL 'sum', in the pinned program and in every row, IS THE sha256 OF THE DUMP (.gsa) THAT YtpjodppcedkneaaProg.lean LOADS. Nothing in Lean hashes anything: it is a label: what it is worth is what the hold of that sum in a sandbox is worth. -/
noncomputable def Try.pinned : Pinned := { name := "ytpjodppcedkneaa", sum := "97d77aeef9adf6644dd48e5750a8072b21576a32bac6e1e1d6ac39fd549df522", checked := Try.checked }
namespace Rows
def none {H : Type} : Left H := { results := [], args := [] }

/-- 'vizardlaw05.TabsEvery': WHATEVER THE INPUT: true; the input reads as it did. -/
def tabsEverySpec : ChangeSpec := { name := "tabsEvery", fn := fun _ => fun
  | [d1, d2, d3] => { results := [.lit (.bool true)], args := [d1, d2, d3] }
  | _ => none }
def tabsEveryRow : OpenClaim := { program := "ytpjodppcedkneaa", sum := "97d77aeef9adf6644dd48e5750a8072b21576a32bac6e1e1d6ac39fd549df522", func := "vizard/vizardlaw05.TabsEvery", spec := "tabsEvery", unfollowed := true, recurses := true, apart := false }
def TabsEverySaid : Prop := tabsEveryRow.holds Try.pinned (OpenSpec.ofChange tabsEverySpec)

/-- ITS FALSE NEIGHBOUR: 'it returns false'. Refute it at one input. -/
def tabsEveryWrong : ChangeSpec := { name := "tabsEvery", fn := fun _ => fun
  | [d1, d2, d3] => { results := [.lit (.bool false)], args := [d1, d2, d3] }
  | _ => none }
def TabsEveryWrongFalsely : Prop := tabsEveryRow.holds Try.pinned (OpenSpec.ofChange tabsEveryWrong)

/-- 'vizardlaw05.TabsPlays': WHATEVER THE INPUT: true; the input reads as it did. -/
def tabsPlaysSpec : ChangeSpec := { name := "tabsPlays", fn := fun _ => fun
  | [d1, d2] => { results := [.lit (.bool true)], args := [d1, d2] }
  | _ => none }
def tabsPlaysRow : OpenClaim := { program := "ytpjodppcedkneaa", sum := "97d77aeef9adf6644dd48e5750a8072b21576a32bac6e1e1d6ac39fd549df522", func := "vizard/vizardlaw05.TabsPlays", spec := "tabsPlays", unfollowed := true, recurses := true, apart := false }
def TabsPlaysSaid : Prop := tabsPlaysRow.holds Try.pinned (OpenSpec.ofChange tabsPlaysSpec)

/-- ITS FALSE NEIGHBOUR: 'it returns false'. Refute it at one input. -/
def tabsPlaysWrong : ChangeSpec := { name := "tabsPlays", fn := fun _ => fun
  | [d1, d2] => { results := [.lit (.bool false)], args := [d1, d2] }
  | _ => none }
def TabsPlaysWrongFalsely : Prop := tabsPlaysRow.holds Try.pinned (OpenSpec.ofChange tabsPlaysWrong)

/-- 'vizardlaw05.TabsGoes': WHATEVER THE INPUT: true; the input reads as it did. -/
def tabsGoesSpec : ChangeSpec := { name := "tabsGoes", fn := fun _ => fun
  | [d1, d2, d3] => { results := [.lit (.bool true)], args := [d1, d2, d3] }
  | _ => none }
def tabsGoesRow : OpenClaim := { program := "ytpjodppcedkneaa", sum := "97d77aeef9adf6644dd48e5750a8072b21576a32bac6e1e1d6ac39fd549df522", func := "vizard/vizardlaw05.TabsGoes", spec := "tabsGoes", unfollowed := true, recurses := true, apart := false }
def TabsGoesSaid : Prop := tabsGoesRow.holds Try.pinned (OpenSpec.ofChange tabsGoesSpec)

/-- ITS FALSE NEIGHBOUR: 'it returns false'. Refute it at one input. -/
def tabsGoesWrong : ChangeSpec := { name := "tabsGoes", fn := fun _ => fun
  | [d1, d2, d3] => { results := [.lit (.bool false)], args := [d1, d2, d3] }
  | _ => none }
def TabsGoesWrongFalsely : Prop := tabsGoesRow.holds Try.pinned (OpenSpec.ofChange tabsGoesWrong)

/-- 'vizardlaw05.TabsCopies': WHATEVER THE INPUT: true; the input reads as it did. -/
def tabsCopiesSpec : ChangeSpec := { name := "tabsCopies", fn := fun _ => fun
  | [d1, d2] => { results := [.lit (.bool true)], args := [d1, d2] }
  | _ => none }
def tabsCopiesRow : OpenClaim := { program := "ytpjodppcedkneaa", sum := "97d77aeef9adf6644dd48e5750a8072b21576a32bac6e1e1d6ac39fd549df522", func := "vizard/vizardlaw05.TabsCopies", spec := "tabsCopies", inPlace := ["maps.clone"], unfollowed := true, recurses := true, apart := false }
def TabsCopiesSaid : Prop := tabsCopiesRow.holds Try.pinned (OpenSpec.ofChange tabsCopiesSpec)

/-- ITS FALSE NEIGHBOUR: 'it returns false'. Refute it at one input. -/
def tabsCopiesWrong : ChangeSpec := { name := "tabsCopies", fn := fun _ => fun
  | [d1, d2] => { results := [.lit (.bool false)], args := [d1, d2] }
  | _ => none }
def TabsCopiesWrongFalsely : Prop := tabsCopiesRow.holds Try.pinned (OpenSpec.ofChange tabsCopiesWrong)

/-- 'vizardlaw05.TabsNil': WHATEVER THE INPUT: true; the input reads as it did. -/
def tabsNilSpec : ChangeSpec := { name := "tabsNil", fn := fun _ => fun
  | [d] => { results := [.lit (.bool true)], args := [d] }
  | _ => none }
def tabsNilRow : OpenClaim := { program := "ytpjodppcedkneaa", sum := "97d77aeef9adf6644dd48e5750a8072b21576a32bac6e1e1d6ac39fd549df522", func := "vizard/vizardlaw05.TabsNil", spec := "tabsNil", inPlace := ["maps.clone"], unfollowed := true, recurses := true, apart := false }
def TabsNilSaid : Prop := tabsNilRow.holds Try.pinned (OpenSpec.ofChange tabsNilSpec)

/-- ITS FALSE NEIGHBOUR: 'it returns false'. Refute it at one input. -/
def tabsNilWrong : ChangeSpec := { name := "tabsNil", fn := fun _ => fun
  | [d] => { results := [.lit (.bool false)], args := [d] }
  | _ => none }
def TabsNilWrongFalsely : Prop := tabsNilRow.holds Try.pinned (OpenSpec.ofChange tabsNilWrong)

/- THE SECOND FORM. 'bulk': how many values and letters a reading holds, each counted each time it is reached (what is shared counts as often as it is met; a slice's spare places count too). A statement '..UptoSaid' is the law's where the arguments, and the package variables that the reading takes, are together of bulk at most 1048576: NARROWER than '..Said'. Prove '..Said' where nothing that the law and all that it calls make is longer than what came in: it says more and counts as full. Else prove '..UptoSaid'. A law counts once. -/
mutual
def uptoBulk {H : Type} : DataW H → Nat
  | .lit (.string bytes) => bytes.length + 1
  | .lit _ => 1
  | .nil => 1
  | .ptr d => uptoBulk d + 1
  | .slice elems spare => uptoBulkAll elems + uptoBulkAll spare + 1
  | .agg parts => uptoBulkAll parts + 1
  | .iface _ d => uptoBulk d + 1
  | .map entries => uptoBulkEntries entries + 1
  | .held _ => 1
def uptoBulkAll {H : Type} : List (DataW H) → Nat
  | [] => 0
  | d :: r => uptoBulk d + uptoBulkAll r
def uptoBulkEntries {H : Type} : List (Lit × DataW H) → Nat
  | [] => 0
  | x :: r => uptoBulkEntry x + uptoBulkEntries r
def uptoBulkEntry {H : Type} : Lit × DataW H → Nat
  | (.string bytes, d) => bytes.length + uptoBulk d + 1
  | (_, d) => uptoBulk d + 1
 end
def uptoSmall : (H : Type) → List (DataW H) → Bool := fun _ ds => decide (uptoBulkAll ds ≤ 1048576)
def OpenSpec.upto (s : _root_.Go.ChangeSpec) : _root_.Go.OpenSpec := { _root_.Go.OpenSpec.ofChange s with cond := some uptoSmall }

/-- 'vizardlaw05.TabsEvery', WHERE WHAT IT READS IS OF BULK AT MOST 1048576: true; the input reads as it did. -/
def tabsEveryUptoRow : OpenClaim := { program := "ytpjodppcedkneaa", sum := "97d77aeef9adf6644dd48e5750a8072b21576a32bac6e1e1d6ac39fd549df522", func := "vizard/vizardlaw05.TabsEvery", spec := "tabsEvery", unfollowed := true, recurses := true, apart := false, narrowed := true }
def TabsEveryUptoSaid : Prop := tabsEveryUptoRow.holds Try.pinned (OpenSpec.upto tabsEverySpec)

/-- 'vizardlaw05.TabsPlays', WHERE WHAT IT READS IS OF BULK AT MOST 1048576: true; the input reads as it did. -/
def tabsPlaysUptoRow : OpenClaim := { program := "ytpjodppcedkneaa", sum := "97d77aeef9adf6644dd48e5750a8072b21576a32bac6e1e1d6ac39fd549df522", func := "vizard/vizardlaw05.TabsPlays", spec := "tabsPlays", unfollowed := true, recurses := true, apart := false, narrowed := true }
def TabsPlaysUptoSaid : Prop := tabsPlaysUptoRow.holds Try.pinned (OpenSpec.upto tabsPlaysSpec)

/-- 'vizardlaw05.TabsGoes', WHERE WHAT IT READS IS OF BULK AT MOST 1048576: true; the input reads as it did. -/
def tabsGoesUptoRow : OpenClaim := { program := "ytpjodppcedkneaa", sum := "97d77aeef9adf6644dd48e5750a8072b21576a32bac6e1e1d6ac39fd549df522", func := "vizard/vizardlaw05.TabsGoes", spec := "tabsGoes", unfollowed := true, recurses := true, apart := false, narrowed := true }
def TabsGoesUptoSaid : Prop := tabsGoesUptoRow.holds Try.pinned (OpenSpec.upto tabsGoesSpec)

/-- 'vizardlaw05.TabsCopies', WHERE WHAT IT READS IS OF BULK AT MOST 1048576: true; the input reads as it did. -/
def tabsCopiesUptoRow : OpenClaim := { program := "ytpjodppcedkneaa", sum := "97d77aeef9adf6644dd48e5750a8072b21576a32bac6e1e1d6ac39fd549df522", func := "vizard/vizardlaw05.TabsCopies", spec := "tabsCopies", inPlace := ["maps.clone"], unfollowed := true, recurses := true, apart := false, narrowed := true }
def TabsCopiesUptoSaid : Prop := tabsCopiesUptoRow.holds Try.pinned (OpenSpec.upto tabsCopiesSpec)

/-- 'vizardlaw05.TabsNil', WHERE WHAT IT READS IS OF BULK AT MOST 1048576: true; the input reads as it did. -/
def tabsNilUptoRow : OpenClaim := { program := "ytpjodppcedkneaa", sum := "97d77aeef9adf6644dd48e5750a8072b21576a32bac6e1e1d6ac39fd549df522", func := "vizard/vizardlaw05.TabsNil", spec := "tabsNil", inPlace := ["maps.clone"], unfollowed := true, recurses := true, apart := false, narrowed := true }
def TabsNilUptoSaid : Prop := tabsNilUptoRow.holds Try.pinned (OpenSpec.upto tabsNilSpec)

end Rows
end Go.Proofs.Ytpjodppcedkneaa
