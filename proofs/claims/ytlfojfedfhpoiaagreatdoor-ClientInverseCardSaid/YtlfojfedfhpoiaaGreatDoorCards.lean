/-
  DERIVED. GIVEN WITH THE SEED: THE CARDS: each row of YtlfojfedfhpoiaaGreatDoorRows.lean that lists a variable, with what it lists TIED to the program's text (the seventh form; the later family's looks); each row that meets fmt, with fmt's text TOLD by the authors' own Lean function (tested against real Go, not proved from fmt's source: count such statements apart). THE CARD IS WHAT COUNTS. Prove the row's statement (the work); the ties are given (YtlfojfedfhpoiaaGreatDoorTie.lean); close each card by the builder's one call (the guide's Derived/Test/ToyasCard.lean, 'card_holds'). Laid BY PROGRAM, IN A SANDBOX (cutbox-door.mjs). By AI agents, Wed Nov 11 2026. No macro, syntax, notation, axiom, sorry.
-/
import Derived.Test.YtlfojfedfhpoiaaGreatDoorRows
import GoSem.ClaimSeven
namespace Go.Proofs.YtlfojfedfhpoiaaGreatDoor
namespace Rows

/-- THE TIED CARD OF 'cubbyholelaw08.ClientPrints'. -/
def clientPrintsCard : Claim7 := { stood := { row := clientPrintsRow, standIns := [], harness := (true, "bcf2c49d1db7905b3bb753490af714c41e78c5a5a4d3191c84c3b212827ee2f8"), looks := true }, kinds := [], alts := [], laidByText := true, laidKinds := [.data, .data, .data, .sentinel, .sentinel, .listed, .data], laidTests := true, laidLooks := .later }
def ClientPrintsCardSaid : Prop := Claim7.holds Tryz.pinned (.plain (OpenSpec.ofChange clientPrintsSpec)) clientPrintsCard

/-- THE TIED CARD OF 'cubbyholelaw08.ClientLong'. -/
def clientLongCard : Claim7 := { stood := { row := clientLongRow, standIns := [], harness := (true, "bcf2c49d1db7905b3bb753490af714c41e78c5a5a4d3191c84c3b212827ee2f8"), looks := true }, kinds := [], alts := [], laidByText := true, laidKinds := [.data, .data, .data, .sentinel, .sentinel, .listed, .data], laidTests := true, laidLooks := .later }
def ClientLongCardSaid : Prop := Claim7.holds Tryz.pinned (.plain (OpenSpec.ofChange clientLongSpec)) clientLongCard

/-- THE TIED CARD OF 'cubbyholelaw08.ClientParses'. -/
def clientParsesCard : Claim7 := { stood := { row := clientParsesRow, standIns := [], harness := (true, "bcf2c49d1db7905b3bb753490af714c41e78c5a5a4d3191c84c3b212827ee2f8"), looks := true }, kinds := [], alts := [], laidByText := true, laidKinds := [.data, .data, .data, .data, .sentinel, .sentinel, .listed, .data, .pinned], laidTests := true, laidLooks := .later }
def ClientParsesCardSaid : Prop := Claim7.holds Tryz.pinned (.plain (OpenSpec.ofChange clientParsesSpec)) clientParsesCard

/-- THE TIED CARD OF 'cubbyholelaw08.ClientReads'. -/
def clientReadsCard : Claim7 := { stood := { row := clientReadsRow, standIns := [], harness := (true, "bcf2c49d1db7905b3bb753490af714c41e78c5a5a4d3191c84c3b212827ee2f8"), looks := true }, kinds := [], alts := [], laidByText := true, laidKinds := [.data, .data, .data, .data, .sentinel, .sentinel, .listed, .data, .pinned], laidTests := true, laidLooks := .later }
def ClientReadsCardSaid : Prop := Claim7.holds Tryz.pinned (.plain (OpenSpec.ofChange clientReadsSpec)) clientReadsCard

/-- THE TIED CARD OF 'cubbyholelaw08.ClientInverse'. -/
def clientInverseCard : Claim7 := { stood := { row := clientInverseRow, standIns := [], harness := (true, "bcf2c49d1db7905b3bb753490af714c41e78c5a5a4d3191c84c3b212827ee2f8"), looks := true }, kinds := [], alts := [], laidByText := true, laidKinds := [.data, .data, .data, .data, .sentinel, .sentinel, .listed, .data, .pinned], laidTests := true, laidLooks := .later }
def ClientInverseCardSaid : Prop := Claim7.holds Tryz.pinned (.plain (OpenSpec.ofChange clientInverseSpec)) clientInverseCard

/-- THE SECOND FORM's CARD OF 'cubbyholelaw08.ClientPrints'. -/
def clientPrintsUptoCard : Claim7 := { stood := { row := clientPrintsUptoRow, standIns := [], harness := (true, "bcf2c49d1db7905b3bb753490af714c41e78c5a5a4d3191c84c3b212827ee2f8"), looks := true }, kinds := [], alts := [], laidByText := true, laidKinds := [.data, .data, .data, .sentinel, .sentinel, .listed, .data], laidTests := true, laidLooks := .later }
def ClientPrintsUptoCardSaid : Prop := Claim7.holds Tryz.pinned (.plain (OpenSpec.upto clientPrintsSpec)) clientPrintsUptoCard

/-- THE SECOND FORM's CARD OF 'cubbyholelaw08.ClientLong'. -/
def clientLongUptoCard : Claim7 := { stood := { row := clientLongUptoRow, standIns := [], harness := (true, "bcf2c49d1db7905b3bb753490af714c41e78c5a5a4d3191c84c3b212827ee2f8"), looks := true }, kinds := [], alts := [], laidByText := true, laidKinds := [.data, .data, .data, .sentinel, .sentinel, .listed, .data], laidTests := true, laidLooks := .later }
def ClientLongUptoCardSaid : Prop := Claim7.holds Tryz.pinned (.plain (OpenSpec.upto clientLongSpec)) clientLongUptoCard

/-- THE SECOND FORM's CARD OF 'cubbyholelaw08.ClientParses'. -/
def clientParsesUptoCard : Claim7 := { stood := { row := clientParsesUptoRow, standIns := [], harness := (true, "bcf2c49d1db7905b3bb753490af714c41e78c5a5a4d3191c84c3b212827ee2f8"), looks := true }, kinds := [], alts := [], laidByText := true, laidKinds := [.data, .data, .data, .data, .sentinel, .sentinel, .listed, .data, .pinned], laidTests := true, laidLooks := .later }
def ClientParsesUptoCardSaid : Prop := Claim7.holds Tryz.pinned (.plain (OpenSpec.upto clientParsesSpec)) clientParsesUptoCard

/-- THE SECOND FORM's CARD OF 'cubbyholelaw08.ClientReads'. -/
def clientReadsUptoCard : Claim7 := { stood := { row := clientReadsUptoRow, standIns := [], harness := (true, "bcf2c49d1db7905b3bb753490af714c41e78c5a5a4d3191c84c3b212827ee2f8"), looks := true }, kinds := [], alts := [], laidByText := true, laidKinds := [.data, .data, .data, .data, .sentinel, .sentinel, .listed, .data, .pinned], laidTests := true, laidLooks := .later }
def ClientReadsUptoCardSaid : Prop := Claim7.holds Tryz.pinned (.plain (OpenSpec.upto clientReadsSpec)) clientReadsUptoCard

/-- THE SECOND FORM's CARD OF 'cubbyholelaw08.ClientInverse'. -/
def clientInverseUptoCard : Claim7 := { stood := { row := clientInverseUptoRow, standIns := [], harness := (true, "bcf2c49d1db7905b3bb753490af714c41e78c5a5a4d3191c84c3b212827ee2f8"), looks := true }, kinds := [], alts := [], laidByText := true, laidKinds := [.data, .data, .data, .data, .sentinel, .sentinel, .listed, .data, .pinned], laidTests := true, laidLooks := .later }
def ClientInverseUptoCardSaid : Prop := Claim7.holds Tryz.pinned (.plain (OpenSpec.upto clientInverseSpec)) clientInverseUptoCard
end Rows
end Go.Proofs.YtlfojfedfhpoiaaGreatDoor
