/-
  DERIVED. GIVEN WITH THE SEED: THE CARDS: each row of YtfkgbpkgggaphaaGreatDoorRows.lean that lists a variable, with what it lists TIED to the program's text (the seventh form; the later family's looks); each row that meets fmt, with fmt's text TOLD by the authors' own Lean function (tested against real Go, not proved from fmt's source: count such statements apart). THE CARD IS WHAT COUNTS. Prove the row's statement (the work); the ties are given (YtfkgbpkgggaphaaGreatDoorTie.lean); close each card by the builder's one call (the guide's Derived/Test/ToyasCard.lean, 'card_holds'). Laid BY PROGRAM, IN A SANDBOX (cutbox-door.mjs). By AI agents, Wed Nov 11 2026. No macro, syntax, notation, axiom, sorry.
-/
import Derived.Test.YtfkgbpkgggaphaaGreatDoorRows
import GoSem.ClaimSeven
namespace Go.Proofs.YtfkgbpkgggaphaaGreatDoor
namespace Rows

/-- THE TIED CARD OF 'cubbyholelaw21.ExecNil'. -/
def execNilCard : Claim7 := { stood := { row := execNilRow, standIns := [], harness := (true, "d245782fd8cf234c8f3deb08b7cfd1920554e5c7bb615277eea62a916df40abb"), looks := false }, kinds := [], alts := [], laidByText := true, laidKinds := [.data, .data, .data, .listed, .data], laidTests := true, laidLooks := .later }
def ExecNilCardSaid : Prop := Claim7.holds Tryz.pinned (.plain (OpenSpec.ofChange execNilSpec)) execNilCard

/-- THE SECOND FORM's CARD OF 'cubbyholelaw21.ExecNil'. -/
def execNilUptoCard : Claim7 := { stood := { row := execNilUptoRow, standIns := [], harness := (true, "d245782fd8cf234c8f3deb08b7cfd1920554e5c7bb615277eea62a916df40abb"), looks := false }, kinds := [], alts := [], laidByText := true, laidKinds := [.data, .data, .data, .listed, .data], laidTests := true, laidLooks := .later }
def ExecNilUptoCardSaid : Prop := Claim7.holds Tryz.pinned (.plain (OpenSpec.upto execNilSpec)) execNilUptoCard
end Rows
end Go.Proofs.YtfkgbpkgggaphaaGreatDoor
