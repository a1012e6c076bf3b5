/-
  DERIVED. GIVEN WITH THE SEED: THE CARDS: each row of YtokiphiakdfipaaGreatDoorRows.lean that lists a variable, with what it lists TIED to the program's text (the seventh form; the later family's looks); each row that meets fmt, with fmt's text TOLD by the authors' own Lean function (tested against real Go, not proved from fmt's source: count such statements apart). THE CARD IS WHAT COUNTS. Prove the row's statement (the work); the ties are given (YtokiphiakdfipaaGreatDoorTie.lean); close each card by the builder's one call (the guide's Derived/Test/ToyasCard.lean, 'card_holds'). Laid BY PROGRAM, IN A SANDBOX (cutbox-door.mjs). By AI agents, Wed Nov 11 2026. No macro, syntax, notation, axiom, sorry.
-/
import Derived.Test.YtokiphiakdfipaaGreatDoorRows
import GoSem.ClaimSeven
namespace Go.Proofs.YtokiphiakdfipaaGreatDoor
namespace Rows

/-- THE TIED CARD OF 'cubbyholelaw25.AuditReplays'. -/
def auditReplaysCard : Claim7 := { stood := { row := auditReplaysRow, standIns := [], harness := (true, "b0982146d0fdd3d0f73843bde2525d9f9ca34b8e9f92977821e9ec96e56f87d5"), looks := true }, kinds := [], alts := [], laidByText := true, laidKinds := [.data, .data, .data, .data, .sentinel, .sentinel, .listed, .data, .pinned], laidTests := true, laidLooks := .later }
def AuditReplaysCardSaid : Prop := Claim7.holds Tryz.pinned (.plain (OpenSpec.ofChange auditReplaysSpec)) auditReplaysCard

/-- THE SECOND FORM's CARD OF 'cubbyholelaw25.AuditReplays'. -/
def auditReplaysUptoCard : Claim7 := { stood := { row := auditReplaysUptoRow, standIns := [], harness := (true, "b0982146d0fdd3d0f73843bde2525d9f9ca34b8e9f92977821e9ec96e56f87d5"), looks := true }, kinds := [], alts := [], laidByText := true, laidKinds := [.data, .data, .data, .data, .sentinel, .sentinel, .listed, .data, .pinned], laidTests := true, laidLooks := .later }
def AuditReplaysUptoCardSaid : Prop := Claim7.holds Tryz.pinned (.plain (OpenSpec.upto auditReplaysSpec)) auditReplaysUptoCard
end Rows
end Go.Proofs.YtokiphiakdfipaaGreatDoor
