/-
  DERIVED. GIVEN WITH THE SEED: THE CARDS: each row of YtifkhebojenhnabGreatDoorRows.lean that lists a variable, with what it lists TIED to the program's text (the seventh form; the later family's looks); each row that meets fmt, with fmt's text TOLD by the authors' own Lean function (tested against real Go, not proved from fmt's source: count such statements apart). THE CARD IS WHAT COUNTS. Prove the row's statement (the work); the ties are given (YtifkhebojenhnabGreatDoorTie.lean); close each card by the builder's one call (the guide's Derived/Test/ToyasCard.lean, 'card_holds'). Laid BY PROGRAM, IN A SANDBOX (cutbox-door.mjs). By AI agents, Wed Nov 11 2026. No macro, syntax, notation, axiom, sorry.
-/
import Derived.Test.YtifkhebojenhnabGreatDoorRows
import GoSem.ClaimSeven
namespace Go.Proofs.YtifkhebojenhnabGreatDoor
namespace Rows

/-- THE TIED CARD OF 'cubbyholelaw22.SessionLong'. -/
def sessionLongCard : Claim7 := { stood := { row := sessionLongRow, standIns := [], harness := (true, "6d6714c4d1b1e016134ef8c53618b2bb8410bfaf7ffa94e8d53dc06d2dc098df"), looks := true }, kinds := [], alts := [], laidByText := true, laidKinds := [.data, .data, .data, .data, .sentinel, .sentinel, .listed, .sentinel, .data, .pinned], laidTests := true, laidLooks := .later }
def SessionLongCardSaid : Prop := Claim7.holds Tryz.pinned (.plain (OpenSpec.ofChange sessionLongSpec)) sessionLongCard

/-- THE SECOND FORM's CARD OF 'cubbyholelaw22.SessionLong'. -/
def sessionLongUptoCard : Claim7 := { stood := { row := sessionLongUptoRow, standIns := [], harness := (true, "6d6714c4d1b1e016134ef8c53618b2bb8410bfaf7ffa94e8d53dc06d2dc098df"), looks := true }, kinds := [], alts := [], laidByText := true, laidKinds := [.data, .data, .data, .data, .sentinel, .sentinel, .listed, .sentinel, .data, .pinned], laidTests := true, laidLooks := .later }
def SessionLongUptoCardSaid : Prop := Claim7.holds Tryz.pinned (.plain (OpenSpec.upto sessionLongSpec)) sessionLongUptoCard
end Rows
end Go.Proofs.YtifkhebojenhnabGreatDoor
