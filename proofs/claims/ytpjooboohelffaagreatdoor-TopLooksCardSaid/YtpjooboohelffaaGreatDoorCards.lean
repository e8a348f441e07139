/-
  DERIVED. GIVEN WITH THE SEED: THE CARDS: each row of YtpjooboohelffaaGreatDoorRows.lean that lists a variable, with what it lists TIED to the program's text (the seventh form; the later family's looks); each row that meets fmt, with fmt's text TOLD by the authors' own Lean function (tested against real Go, not proved from fmt's source: count such statements apart). THE CARD IS WHAT COUNTS. Prove the row's statement (the work); the ties are given (YtpjooboohelffaaGreatDoorTie.lean); close each card by the builder's one call (the guide's Derived/Test/ToyasCard.lean, 'card_holds'). Laid BY PROGRAM, IN A SANDBOX (cutbox-door.mjs). By AI agents, Wed Nov 11 2026. No macro, syntax, notation, axiom, sorry.
-/
import Derived.Test.YtpjooboohelffaaGreatDoorRows
import GoSem.ClaimSeven
namespace Go.Proofs.YtpjooboohelffaaGreatDoor
namespace Rows

/-- THE TIED CARD OF 'vizardtop.TopLooks'. -/
def topLooksCard : Claim7 := { stood := { row := topLooksRow, standIns := [], harness := (true, "35e581b5746ab5589bf96fea05ada15ec45e04ab7650470557ce8412a100e57d"), looks := true }, kinds := [], alts := [], laidByText := true, laidKinds := [.data, .data, .data, .data, .sentinel, .sentinel, .data, .data, .pinned], laidTests := true, laidLooks := .later }
def TopLooksCardSaid : Prop := Claim7.holds Tryz.pinned (.plain (OpenSpec.ofChange topLooksSpec)) topLooksCard

/-- THE TIED CARD OF 'vizardtop.TopSends'. -/
def topSendsCard : Claim7 := { stood := { row := topSendsRow, standIns := [], harness := (true, "35e581b5746ab5589bf96fea05ada15ec45e04ab7650470557ce8412a100e57d"), looks := true }, kinds := [], alts := [], laidByText := true, laidKinds := [.data, .data, .data, .data, .sentinel, .sentinel, .data, .data, .pinned], laidTests := true, laidLooks := .later }
def TopSendsCardSaid : Prop := Claim7.holds Tryz.pinned (.plain (OpenSpec.ofChange topSendsSpec)) topSendsCard

/-- THE SECOND FORM's CARD OF 'vizardtop.TopLooks'. -/
def topLooksUptoCard : Claim7 := { stood := { row := topLooksUptoRow, standIns := [], harness := (true, "35e581b5746ab5589bf96fea05ada15ec45e04ab7650470557ce8412a100e57d"), looks := true }, kinds := [], alts := [], laidByText := true, laidKinds := [.data, .data, .data, .data, .sentinel, .sentinel, .data, .data, .pinned], laidTests := true, laidLooks := .later }
def TopLooksUptoCardSaid : Prop := Claim7.holds Tryz.pinned (.plain (OpenSpec.upto topLooksSpec)) topLooksUptoCard

/-- THE SECOND FORM's CARD OF 'vizardtop.TopSends'. -/
def topSendsUptoCard : Claim7 := { stood := { row := topSendsUptoRow, standIns := [], harness := (true, "35e581b5746ab5589bf96fea05ada15ec45e04ab7650470557ce8412a100e57d"), looks := true }, kinds := [], alts := [], laidByText := true, laidKinds := [.data, .data, .data, .data, .sentinel, .sentinel, .data, .data, .pinned], laidTests := true, laidLooks := .later }
def TopSendsUptoCardSaid : Prop := Claim7.holds Tryz.pinned (.plain (OpenSpec.upto topSendsSpec)) topSendsUptoCard
end Rows
end Go.Proofs.YtpjooboohelffaaGreatDoor
