/-
  DERIVED. GIVEN WITH THE SEED: THE CARDS: each row of YtbdmcannoljafaaGreatDoorRows.lean that lists a variable, with what it lists TIED to the program's text (the seventh form; the later family's looks); each row that meets fmt, with fmt's text TOLD by the authors' own Lean function (tested against real Go, not proved from fmt's source: count such statements apart). THE CARD IS WHAT COUNTS. Prove the row's statement (the work); the ties are given (YtbdmcannoljafaaGreatDoorTie.lean); close each card by the builder's one call (the guide's Derived/Test/ToyasCard.lean, 'card_holds'). Laid BY PROGRAM, IN A SANDBOX (cutbox-door.mjs). By AI agents, Wed Nov 11 2026. No macro, syntax, notation, axiom, sorry.
-/
import Derived.Test.YtbdmcannoljafaaGreatDoorRows
import GoSem.ClaimSeven
namespace Go.Proofs.YtbdmcannoljafaaGreatDoor
namespace Rows

/-- THE TIED CARD OF 'cubbyholelaw10.ReplyCounts'. -/
def replyCountsCard : Claim7 := { stood := { row := replyCountsRow, standIns := [], harness := (true, "1059de0cdef1144126e51e17e216421ac0fddc627f4682d657e2c8b3c4bd4c12"), looks := true }, kinds := [], alts := [], laidByText := true, laidKinds := [.data, .data, .data, .data, .sentinel, .sentinel, .listed, .data, .pinned], laidTests := true, laidLooks := .later }
def ReplyCountsCardSaid : Prop := Claim7.holds Tryz.pinned (.plain (OpenSpec.ofChange replyCountsSpec)) replyCountsCard

/-- THE TIED CARD OF 'cubbyholelaw10.ReplyPicks'. -/
def replyPicksCard : Claim7 := { stood := { row := replyPicksRow, standIns := [], harness := (true, "1059de0cdef1144126e51e17e216421ac0fddc627f4682d657e2c8b3c4bd4c12"), looks := true }, kinds := [], alts := [], laidByText := true, laidKinds := [.data, .data, .data, .data, .sentinel, .sentinel, .listed, .data, .pinned], laidTests := true, laidLooks := .later }
def ReplyPicksCardSaid : Prop := Claim7.holds Tryz.pinned (.plain (OpenSpec.ofChange replyPicksSpec)) replyPicksCard

/-- THE TIED CARD OF 'cubbyholelaw25.AuditOrders'. -/
def auditOrdersCard : Claim7 := { stood := { row := auditOrdersRow, standIns := [], harness := (true, "1059de0cdef1144126e51e17e216421ac0fddc627f4682d657e2c8b3c4bd4c12"), looks := true }, kinds := [], alts := [], laidByText := true, laidKinds := [.data, .data, .data, .data, .sentinel, .sentinel, .listed, .data, .pinned], laidTests := true, laidLooks := .later }
def AuditOrdersCardSaid : Prop := Claim7.holds Tryz.pinned (.plain (OpenSpec.ofChange auditOrdersSpec)) auditOrdersCard

/-- THE SECOND FORM's CARD OF 'cubbyholelaw10.ReplyCounts'. -/
def replyCountsUptoCard : Claim7 := { stood := { row := replyCountsUptoRow, standIns := [], harness := (true, "1059de0cdef1144126e51e17e216421ac0fddc627f4682d657e2c8b3c4bd4c12"), looks := true }, kinds := [], alts := [], laidByText := true, laidKinds := [.data, .data, .data, .data, .sentinel, .sentinel, .listed, .data, .pinned], laidTests := true, laidLooks := .later }
def ReplyCountsUptoCardSaid : Prop := Claim7.holds Tryz.pinned (.plain (OpenSpec.upto replyCountsSpec)) replyCountsUptoCard

/-- THE SECOND FORM's CARD OF 'cubbyholelaw10.ReplyPicks'. -/
def replyPicksUptoCard : Claim7 := { stood := { row := replyPicksUptoRow, standIns := [], harness := (true, "1059de0cdef1144126e51e17e216421ac0fddc627f4682d657e2c8b3c4bd4c12"), looks := true }, kinds := [], alts := [], laidByText := true, laidKinds := [.data, .data, .data, .data, .sentinel, .sentinel, .listed, .data, .pinned], laidTests := true, laidLooks := .later }
def ReplyPicksUptoCardSaid : Prop := Claim7.holds Tryz.pinned (.plain (OpenSpec.upto replyPicksSpec)) replyPicksUptoCard

/-- THE SECOND FORM's CARD OF 'cubbyholelaw25.AuditOrders'. -/
def auditOrdersUptoCard : Claim7 := { stood := { row := auditOrdersUptoRow, standIns := [], harness := (true, "1059de0cdef1144126e51e17e216421ac0fddc627f4682d657e2c8b3c4bd4c12"), looks := true }, kinds := [], alts := [], laidByText := true, laidKinds := [.data, .data, .data, .data, .sentinel, .sentinel, .listed, .data, .pinned], laidTests := true, laidLooks := .later }
def AuditOrdersUptoCardSaid : Prop := Claim7.holds Tryz.pinned (.plain (OpenSpec.upto auditOrdersSpec)) auditOrdersUptoCard
end Rows
end Go.Proofs.YtbdmcannoljafaaGreatDoor
