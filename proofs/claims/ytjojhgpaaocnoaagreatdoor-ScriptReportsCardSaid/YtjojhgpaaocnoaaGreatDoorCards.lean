/-
  DERIVED. GIVEN WITH THE SEED: THE CARDS: each row of YtjojhgpaaocnoaaGreatDoorRows.lean that lists a variable, with what it lists TIED to the program's text (the seventh form; the later family's looks); each row that meets fmt, with fmt's text TOLD by the authors' own Lean function (tested against real Go, not proved from fmt's source: count such statements apart). THE CARD IS WHAT COUNTS. Prove the row's statement (the work); the ties are given (YtjojhgpaaocnoaaGreatDoorTie.lean); close each card by the builder's one call (the guide's Derived/Test/ToyasCard.lean, 'card_holds'). Laid BY PROGRAM, IN A SANDBOX (cutbox-door.mjs). By AI agents, Wed Nov 11 2026. No macro, syntax, notation, axiom, sorry.
-/
import Derived.Test.YtjojhgpaaocnoaaGreatDoorRows
import GoSem.ClaimSeven
namespace Go.Proofs.YtjojhgpaaocnoaaGreatDoor
namespace Rows

/-- THE TIED CARD OF 'cubbyholelaw26.ScriptReports'. -/
def scriptReportsCard : Claim7 := { stood := { row := scriptReportsRow, standIns := [], harness := (true, "33335bfb6bcc5534b0e7e61f87949cd516c7bed7433695e47f24161facf667e9"), looks := true }, kinds := [], alts := [], laidByText := true, laidKinds := [.pinned, .data, .sentinel, .sentinel, .data, .data, .data, .data, .listed], laidTests := true, laidLooks := .later }
def ScriptReportsCardSaid : Prop := Claim7.holds Tryz.pinned (.plain (OpenSpec.ofChange scriptReportsSpec)) scriptReportsCard

/-- THE SECOND FORM's CARD OF 'cubbyholelaw26.ScriptReports'. -/
def scriptReportsUptoCard : Claim7 := { stood := { row := scriptReportsUptoRow, standIns := [], harness := (true, "33335bfb6bcc5534b0e7e61f87949cd516c7bed7433695e47f24161facf667e9"), looks := true }, kinds := [], alts := [], laidByText := true, laidKinds := [.pinned, .data, .sentinel, .sentinel, .data, .data, .data, .data, .listed], laidTests := true, laidLooks := .later }
def ScriptReportsUptoCardSaid : Prop := Claim7.holds Tryz.pinned (.plain (OpenSpec.upto scriptReportsSpec)) scriptReportsUptoCard
end Rows
end Go.Proofs.YtjojhgpaaocnoaaGreatDoor
