/-
  DERIVED. GIVEN WITH THE SEED: THE CARDS: each row of YtifkhebojenhnaaGreatDoorRows.lean that lists a variable, with what it lists TIED to the program's text (the seventh form; the later family's looks); each row that meets fmt, with fmt's text TOLD by the authors' own Lean function (tested against real Go, not proved from fmt's source: count such statements apart). THE CARD IS WHAT COUNTS. Prove the row's statement (the work); the ties are given (YtifkhebojenhnaaGreatDoorTie.lean); close each card by the builder's one call (the guide's Derived/Test/ToyasCard.lean, 'card_holds'). Laid BY PROGRAM, IN A SANDBOX (cutbox-door.mjs). By AI agents, Wed Nov 11 2026. No macro, syntax, notation, axiom, sorry.
-/
import Derived.Test.YtifkhebojenhnaaGreatDoorRows
import GoSem.ClaimSeven
namespace Go.Proofs.YtifkhebojenhnaaGreatDoor
namespace Rows

/-- THE TIED CARD OF 'cubbyholelaw07.CommandKeeps'. -/
def commandKeepsCard : Claim7 := { stood := { row := commandKeepsRow, standIns := [], harness := (true, "3daa1695f0cfea92ae76e7fb58b6c3af32493a5e17d8e0608d82ce5b8a51655d"), looks := true }, kinds := [], alts := [], laidByText := true, laidKinds := [.data, .data, .data, .data, .sentinel, .sentinel, .listed, .data, .pinned], laidTests := true, laidLooks := .later }
def CommandKeepsCardSaid : Prop := Claim7.holds Tryz.pinned (.plain (OpenSpec.ofChange commandKeepsSpec)) commandKeepsCard

/-- THE SECOND FORM's CARD OF 'cubbyholelaw07.CommandKeeps'. -/
def commandKeepsUptoCard : Claim7 := { stood := { row := commandKeepsUptoRow, standIns := [], harness := (true, "3daa1695f0cfea92ae76e7fb58b6c3af32493a5e17d8e0608d82ce5b8a51655d"), looks := true }, kinds := [], alts := [], laidByText := true, laidKinds := [.data, .data, .data, .data, .sentinel, .sentinel, .listed, .data, .pinned], laidTests := true, laidLooks := .later }
def CommandKeepsUptoCardSaid : Prop := Claim7.holds Tryz.pinned (.plain (OpenSpec.upto commandKeepsSpec)) commandKeepsUptoCard
end Rows
end Go.Proofs.YtifkhebojenhnaaGreatDoor
