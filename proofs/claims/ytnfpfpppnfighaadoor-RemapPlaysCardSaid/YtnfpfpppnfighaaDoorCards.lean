/-
  DERIVED. GIVEN WITH THE SEED: THE CARDS: each row of YtnfpfpppnfighaaDoorRows.lean that lists a variable, with what it lists TIED to the program's text (the seventh form; the later family's looks); each row that meets fmt, with fmt's text TOLD by the authors' own Lean function (tested against real Go, not proved from fmt's source: count such statements apart). THE CARD IS WHAT COUNTS. Prove the row's statement (the work); the ties are given (YtnfpfpppnfighaaDoorTie.lean); close each card by the builder's one call (the guide's Derived/Test/ToyasCard.lean, 'card_holds'). Laid BY PROGRAM, IN A SANDBOX (cutbox-door.mjs). By AI agents, Wed Nov 11 2026. No macro, syntax, notation, axiom, sorry.
-/
import Derived.Test.YtnfpfpppnfighaaDoorRows
import GoSem.ClaimSeven
namespace Go.Proofs.YtnfpfpppnfighaaDoor
namespace Rows

/-- THE TIED CARD OF 'vizardlaw14.RemapReads'. -/
def remapReadsCard : Claim7 := { stood := { row := remapReadsRow, standIns := [], harness := (true, "cd738fea9b2a971beda03d861cb0f741e75037e9b8c74953c8af1218aaab4f84"), looks := true }, kinds := [], alts := [], laidByText := true, laidKinds := [.data, .data, .data, .sentinel, .sentinel], laidTests := true, laidLooks := .later }
def RemapReadsCardSaid : Prop := Claim7.holds Tryd.pinned (.plain (OpenSpec.ofChange remapReadsSpec)) remapReadsCard

/-- THE TIED CARD OF 'vizardlaw14.RemapTells'. -/
def remapTellsCard : Claim7 := { stood := { row := remapTellsRow, standIns := [], harness := (true, "cd738fea9b2a971beda03d861cb0f741e75037e9b8c74953c8af1218aaab4f84"), looks := true }, kinds := [], alts := [], laidByText := true, laidKinds := [.data, .data, .data, .sentinel, .sentinel], laidTests := true, laidLooks := .later }
def RemapTellsCardSaid : Prop := Claim7.holds Tryd.pinned (.plain (OpenSpec.ofChange remapTellsSpec)) remapTellsCard

/-- THE TIED CARD OF 'vizardlaw14.RemapApart'. -/
def remapApartCard : Claim7 := { stood := { row := remapApartRow, standIns := [], harness := (true, "cd738fea9b2a971beda03d861cb0f741e75037e9b8c74953c8af1218aaab4f84"), looks := true }, kinds := [], alts := [], laidByText := true, laidKinds := [.data, .data, .data, .sentinel, .sentinel], laidTests := true, laidLooks := .later }
def RemapApartCardSaid : Prop := Claim7.holds Tryd.pinned (.plain (OpenSpec.ofChange remapApartSpec)) remapApartCard

/-- THE TIED CARD OF 'vizardlaw14.RemapLast'. -/
def remapLastCard : Claim7 := { stood := { row := remapLastRow, standIns := [], harness := (true, "cd738fea9b2a971beda03d861cb0f741e75037e9b8c74953c8af1218aaab4f84"), looks := true }, kinds := [], alts := [], laidByText := true, laidKinds := [.data, .data, .data, .sentinel, .sentinel], laidTests := true, laidLooks := .later }
def RemapLastCardSaid : Prop := Claim7.holds Tryd.pinned (.plain (OpenSpec.ofChange remapLastSpec)) remapLastCard

/-- THE TIED CARD OF 'vizardlaw14.RemapOrder'. -/
def remapOrderCard : Claim7 := { stood := { row := remapOrderRow, standIns := [], harness := (true, "cd738fea9b2a971beda03d861cb0f741e75037e9b8c74953c8af1218aaab4f84"), looks := true }, kinds := [], alts := [], laidByText := true, laidKinds := [.data, .data, .data, .sentinel, .sentinel], laidTests := true, laidLooks := .later }
def RemapOrderCardSaid : Prop := Claim7.holds Tryd.pinned (.plain (OpenSpec.ofChange remapOrderSpec)) remapOrderCard

/-- THE TIED CARD OF 'vizardlaw14.RemapPlays'. -/
def remapPlaysCard : Claim7 := { stood := { row := remapPlaysRow, standIns := [], harness := (true, "cd738fea9b2a971beda03d861cb0f741e75037e9b8c74953c8af1218aaab4f84"), looks := true }, kinds := [], alts := [], laidByText := true, laidKinds := [.data, .data, .data, .sentinel, .sentinel], laidTests := true, laidLooks := .later }
def RemapPlaysCardSaid : Prop := Claim7.holds Tryd.pinned (.plain (OpenSpec.ofChange remapPlaysSpec)) remapPlaysCard

/-- THE TIED CARD OF 'vizardlaw14.RemapNil'. -/
def remapNilCard : Claim7 := { stood := { row := remapNilRow, standIns := [], harness := (true, "cd738fea9b2a971beda03d861cb0f741e75037e9b8c74953c8af1218aaab4f84"), looks := true }, kinds := [], alts := [], laidByText := true, laidKinds := [.data, .data, .data, .sentinel, .sentinel], laidTests := true, laidLooks := .later }
def RemapNilCardSaid : Prop := Claim7.holds Tryd.pinned (.plain (OpenSpec.ofChange remapNilSpec)) remapNilCard

/-- THE SECOND FORM's CARD OF 'vizardlaw14.RemapReads'. -/
def remapReadsUptoCard : Claim7 := { stood := { row := remapReadsUptoRow, standIns := [], harness := (true, "cd738fea9b2a971beda03d861cb0f741e75037e9b8c74953c8af1218aaab4f84"), looks := true }, kinds := [], alts := [], laidByText := true, laidKinds := [.data, .data, .data, .sentinel, .sentinel], laidTests := true, laidLooks := .later }
def RemapReadsUptoCardSaid : Prop := Claim7.holds Tryd.pinned (.plain (OpenSpec.upto remapReadsSpec)) remapReadsUptoCard

/-- THE SECOND FORM's CARD OF 'vizardlaw14.RemapTells'. -/
def remapTellsUptoCard : Claim7 := { stood := { row := remapTellsUptoRow, standIns := [], harness := (true, "cd738fea9b2a971beda03d861cb0f741e75037e9b8c74953c8af1218aaab4f84"), looks := true }, kinds := [], alts := [], laidByText := true, laidKinds := [.data, .data, .data, .sentinel, .sentinel], laidTests := true, laidLooks := .later }
def RemapTellsUptoCardSaid : Prop := Claim7.holds Tryd.pinned (.plain (OpenSpec.upto remapTellsSpec)) remapTellsUptoCard

/-- THE SECOND FORM's CARD OF 'vizardlaw14.RemapApart'. -/
def remapApartUptoCard : Claim7 := { stood := { row := remapApartUptoRow, standIns := [], harness := (true, "cd738fea9b2a971beda03d861cb0f741e75037e9b8c74953c8af1218aaab4f84"), looks := true }, kinds := [], alts := [], laidByText := true, laidKinds := [.data, .data, .data, .sentinel, .sentinel], laidTests := true, laidLooks := .later }
def RemapApartUptoCardSaid : Prop := Claim7.holds Tryd.pinned (.plain (OpenSpec.upto remapApartSpec)) remapApartUptoCard

/-- THE SECOND FORM's CARD OF 'vizardlaw14.RemapLast'. -/
def remapLastUptoCard : Claim7 := { stood := { row := remapLastUptoRow, standIns := [], harness := (true, "cd738fea9b2a971beda03d861cb0f741e75037e9b8c74953c8af1218aaab4f84"), looks := true }, kinds := [], alts := [], laidByText := true, laidKinds := [.data, .data, .data, .sentinel, .sentinel], laidTests := true, laidLooks := .later }
def RemapLastUptoCardSaid : Prop := Claim7.holds Tryd.pinned (.plain (OpenSpec.upto remapLastSpec)) remapLastUptoCard

/-- THE SECOND FORM's CARD OF 'vizardlaw14.RemapOrder'. -/
def remapOrderUptoCard : Claim7 := { stood := { row := remapOrderUptoRow, standIns := [], harness := (true, "cd738fea9b2a971beda03d861cb0f741e75037e9b8c74953c8af1218aaab4f84"), looks := true }, kinds := [], alts := [], laidByText := true, laidKinds := [.data, .data, .data, .sentinel, .sentinel], laidTests := true, laidLooks := .later }
def RemapOrderUptoCardSaid : Prop := Claim7.holds Tryd.pinned (.plain (OpenSpec.upto remapOrderSpec)) remapOrderUptoCard

/-- THE SECOND FORM's CARD OF 'vizardlaw14.RemapPlays'. -/
def remapPlaysUptoCard : Claim7 := { stood := { row := remapPlaysUptoRow, standIns := [], harness := (true, "cd738fea9b2a971beda03d861cb0f741e75037e9b8c74953c8af1218aaab4f84"), looks := true }, kinds := [], alts := [], laidByText := true, laidKinds := [.data, .data, .data, .sentinel, .sentinel], laidTests := true, laidLooks := .later }
def RemapPlaysUptoCardSaid : Prop := Claim7.holds Tryd.pinned (.plain (OpenSpec.upto remapPlaysSpec)) remapPlaysUptoCard

/-- THE SECOND FORM's CARD OF 'vizardlaw14.RemapNil'. -/
def remapNilUptoCard : Claim7 := { stood := { row := remapNilUptoRow, standIns := [], harness := (true, "cd738fea9b2a971beda03d861cb0f741e75037e9b8c74953c8af1218aaab4f84"), looks := true }, kinds := [], alts := [], laidByText := true, laidKinds := [.data, .data, .data, .sentinel, .sentinel], laidTests := true, laidLooks := .later }
def RemapNilUptoCardSaid : Prop := Claim7.holds Tryd.pinned (.plain (OpenSpec.upto remapNilSpec)) remapNilUptoCard
end Rows
end Go.Proofs.YtnfpfpppnfighaaDoor
