/-
  DERIVED. GIVEN WITH THE SEED: THE CARDS: each row of YtnbfgnfpdlelbabGreatDoorRows.lean that lists a variable, with what it lists TIED to the program's text (the seventh form; the later family's looks); each row that meets fmt, with fmt's text TOLD by the authors' own Lean function (tested against real Go, not proved from fmt's source: count such statements apart). THE CARD IS WHAT COUNTS. Prove the row's statement (the work); the ties are given (YtnbfgnfpdlelbabGreatDoorTie.lean); close each card by the builder's one call (the guide's Derived/Test/ToyasCard.lean, 'card_holds'). Laid BY PROGRAM, IN A SANDBOX (cutbox-door.mjs). By AI agents, Wed Nov 11 2026. No macro, syntax, notation, axiom, sorry.
-/
import Derived.Test.YtnbfgnfpdlelbabGreatDoorRows
import GoSem.ClaimSeven
namespace Go.Proofs.YtnbfgnfpdlelbabGreatDoor
namespace Rows

/-- THE TIED CARD OF 'cubbyholelaw23.TaskNil'. -/
def taskNilCard : Claim7 := { stood := { row := taskNilRow, standIns := [], harness := (true, "85d968641c83afc706ac92decf0f1c23f9bca7869411d04cd112d3362eb45395"), looks := true }, kinds := [], alts := [], laidByText := true, laidKinds := [.sentinel, .sentinel, .data, .data, .data, .data, .listed, .pinned, .data], laidTests := true, laidLooks := .later }
def TaskNilCardSaid : Prop := Claim7.holds Tryz.pinned (.plain (OpenSpec.ofChange taskNilSpec)) taskNilCard

/-- THE SECOND FORM's CARD OF 'cubbyholelaw23.TaskNil'. -/
def taskNilUptoCard : Claim7 := { stood := { row := taskNilUptoRow, standIns := [], harness := (true, "85d968641c83afc706ac92decf0f1c23f9bca7869411d04cd112d3362eb45395"), looks := true }, kinds := [], alts := [], laidByText := true, laidKinds := [.sentinel, .sentinel, .data, .data, .data, .data, .listed, .pinned, .data], laidTests := true, laidLooks := .later }
def TaskNilUptoCardSaid : Prop := Claim7.holds Tryz.pinned (.plain (OpenSpec.upto taskNilSpec)) taskNilUptoCard
end Rows
end Go.Proofs.YtnbfgnfpdlelbabGreatDoor
