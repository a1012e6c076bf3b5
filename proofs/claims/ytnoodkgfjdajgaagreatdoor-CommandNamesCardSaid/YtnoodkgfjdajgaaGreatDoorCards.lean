/-
  DERIVED. GIVEN WITH THE SEED: THE CARDS: each row of YtnoodkgfjdajgaaGreatDoorRows.lean that lists a variable, with what it lists TIED to the program's text (the seventh form; the later family's looks); each row that meets fmt, with fmt's text TOLD by the authors' own Lean function (tested against real Go, not proved from fmt's source: count such statements apart). THE CARD IS WHAT COUNTS. Prove the row's statement (the work); the ties are given (YtnoodkgfjdajgaaGreatDoorTie.lean); close each card by the builder's one call (the guide's Derived/Test/ToyasCard.lean, 'card_holds'). Laid BY PROGRAM, IN A SANDBOX (cutbox-door.mjs). By AI agents, Wed Nov 11 2026. No macro, syntax, notation, axiom, sorry.
-/
import Derived.Test.YtnoodkgfjdajgaaGreatDoorRows
import GoSem.ClaimSeven
namespace Go.Proofs.YtnoodkgfjdajgaaGreatDoor
namespace Rows

/-- THE TIED CARD OF 'cubbyholelaw08.ClientRetags'. -/
def clientRetagsCard : Claim7 := { stood := { row := clientRetagsRow, standIns := [], harness := (true, "9f25ecfe783c7e37c151ba3475c3218a2ba3563eb996540256d15537c3e035ea"), looks := true }, kinds := [], alts := [], laidByText := true, laidKinds := [.data, .data, .data, .sentinel, .sentinel, .listed, .data], laidTests := true, laidLooks := .later }
def ClientRetagsCardSaid : Prop := Claim7.holds Tryz.pinned (.plain (OpenSpec.ofChange clientRetagsSpec)) clientRetagsCard

/-- THE TIED CARD OF 'cubbyholelaw07.CommandNames'. -/
def commandNamesCard : Claim7 := { stood := { row := commandNamesRow, standIns := [], harness := (true, "9f25ecfe783c7e37c151ba3475c3218a2ba3563eb996540256d15537c3e035ea"), looks := true }, kinds := [], alts := [], laidByText := true, laidKinds := [.data, .data, .data, .data, .sentinel, .sentinel, .listed, .data, .pinned], laidTests := true, laidLooks := .later }
def CommandNamesCardSaid : Prop := Claim7.holds Tryz.pinned (.plain (OpenSpec.ofChange commandNamesSpec)) commandNamesCard

/-- THE TIED CARD OF 'cubbyholelaw10.ReplyPicks'. -/
def replyPicksCard : Claim7 := { stood := { row := replyPicksRow, standIns := [], harness := (true, "9f25ecfe783c7e37c151ba3475c3218a2ba3563eb996540256d15537c3e035ea"), looks := true }, kinds := [], alts := [], laidByText := true, laidKinds := [.data, .data, .data, .data, .sentinel, .sentinel, .listed, .data, .pinned], laidTests := true, laidLooks := .later }
def ReplyPicksCardSaid : Prop := Claim7.holds Tryz.pinned (.plain (OpenSpec.ofChange replyPicksSpec)) replyPicksCard

/-- THE TIED CARD OF 'cubbyholelaw25.AuditOrders'. -/
def auditOrdersCard : Claim7 := { stood := { row := auditOrdersRow, standIns := [], harness := (true, "9f25ecfe783c7e37c151ba3475c3218a2ba3563eb996540256d15537c3e035ea"), looks := true }, kinds := [], alts := [], laidByText := true, laidKinds := [.data, .data, .data, .data, .sentinel, .sentinel, .listed, .data, .pinned], laidTests := true, laidLooks := .later }
def AuditOrdersCardSaid : Prop := Claim7.holds Tryz.pinned (.plain (OpenSpec.ofChange auditOrdersSpec)) auditOrdersCard

/-- THE SECOND FORM's CARD OF 'cubbyholelaw08.ClientRetags'. -/
def clientRetagsUptoCard : Claim7 := { stood := { row := clientRetagsUptoRow, standIns := [], harness := (true, "9f25ecfe783c7e37c151ba3475c3218a2ba3563eb996540256d15537c3e035ea"), looks := true }, kinds := [], alts := [], laidByText := true, laidKinds := [.data, .data, .data, .sentinel, .sentinel, .listed, .data], laidTests := true, laidLooks := .later }
def ClientRetagsUptoCardSaid : Prop := Claim7.holds Tryz.pinned (.plain (OpenSpec.upto clientRetagsSpec)) clientRetagsUptoCard

/-- THE SECOND FORM's CARD OF 'cubbyholelaw07.CommandNames'. -/
def commandNamesUptoCard : Claim7 := { stood := { row := commandNamesUptoRow, standIns := [], harness := (true, "9f25ecfe783c7e37c151ba3475c3218a2ba3563eb996540256d15537c3e035ea"), looks := true }, kinds := [], alts := [], laidByText := true, laidKinds := [.data, .data, .data, .data, .sentinel, .sentinel, .listed, .data, .pinned], laidTests := true, laidLooks := .later }
def CommandNamesUptoCardSaid : Prop := Claim7.holds Tryz.pinned (.plain (OpenSpec.upto commandNamesSpec)) commandNamesUptoCard

/-- THE SECOND FORM's CARD OF 'cubbyholelaw10.ReplyPicks'. -/
def replyPicksUptoCard : Claim7 := { stood := { row := replyPicksUptoRow, standIns := [], harness := (true, "9f25ecfe783c7e37c151ba3475c3218a2ba3563eb996540256d15537c3e035ea"), looks := true }, kinds := [], alts := [], laidByText := true, laidKinds := [.data, .data, .data, .data, .sentinel, .sentinel, .listed, .data, .pinned], laidTests := true, laidLooks := .later }
def ReplyPicksUptoCardSaid : Prop := Claim7.holds Tryz.pinned (.plain (OpenSpec.upto replyPicksSpec)) replyPicksUptoCard

/-- THE SECOND FORM's CARD OF 'cubbyholelaw25.AuditOrders'. -/
def auditOrdersUptoCard : Claim7 := { stood := { row := auditOrdersUptoRow, standIns := [], harness := (true, "9f25ecfe783c7e37c151ba3475c3218a2ba3563eb996540256d15537c3e035ea"), looks := true }, kinds := [], alts := [], laidByText := true, laidKinds := [.data, .data, .data, .data, .sentinel, .sentinel, .listed, .data, .pinned], laidTests := true, laidLooks := .later }
def AuditOrdersUptoCardSaid : Prop := Claim7.holds Tryz.pinned (.plain (OpenSpec.upto auditOrdersSpec)) auditOrdersUptoCard
end Rows
end Go.Proofs.YtnoodkgfjdajgaaGreatDoor
