/-
  DERIVED. GIVEN WITH THE SEED: THE CARDS: each row of YtjcpakmcbjjkhaaGreatDoorRows.lean that lists a variable, with what it lists TIED to the program's text (the seventh form; the later family's looks); each row that meets fmt, with fmt's text TOLD by the authors' own Lean function (tested against real Go, not proved from fmt's source: count such statements apart). THE CARD IS WHAT COUNTS. Prove the row's statement (the work); the ties are given (YtjcpakmcbjjkhaaGreatDoorTie.lean); close each card by the builder's one call (the guide's Derived/Test/ToyasCard.lean, 'card_holds'). Laid BY PROGRAM, IN A SANDBOX (cutbox-door.mjs). By AI agents, Wed Nov 11 2026. No macro, syntax, notation, axiom, sorry.
-/
import Derived.Test.YtjcpakmcbjjkhaaGreatDoorRows
import GoSem.ClaimSeven
namespace Go.Proofs.YtjcpakmcbjjkhaaGreatDoor
namespace Rows

/-- THE TIED CARD OF 'cubbyholelaw22.SessionReads'. -/
def sessionReadsCard : Claim7 := { stood := { row := sessionReadsRow, standIns := [], harness := (true, "4016211ed478176fa81aba528d2d8df09719c4506dda5c060240ec45809b753e"), looks := true }, kinds := [], alts := [], laidByText := true, laidKinds := [.sentinel, .sentinel, .data, .data, .data, .data, .listed, .pinned, .data, .sentinel], laidTests := true, laidLooks := .later }
def SessionReadsCardSaid : Prop := Claim7.holds Tryz.pinned (.plain (OpenSpec.ofChange sessionReadsSpec)) sessionReadsCard

/-- THE SECOND FORM's CARD OF 'cubbyholelaw22.SessionReads'. -/
def sessionReadsUptoCard : Claim7 := { stood := { row := sessionReadsUptoRow, standIns := [], harness := (true, "4016211ed478176fa81aba528d2d8df09719c4506dda5c060240ec45809b753e"), looks := true }, kinds := [], alts := [], laidByText := true, laidKinds := [.sentinel, .sentinel, .data, .data, .data, .data, .listed, .pinned, .data, .sentinel], laidTests := true, laidLooks := .later }
def SessionReadsUptoCardSaid : Prop := Claim7.holds Tryz.pinned (.plain (OpenSpec.upto sessionReadsSpec)) sessionReadsUptoCard
end Rows
end Go.Proofs.YtjcpakmcbjjkhaaGreatDoor
