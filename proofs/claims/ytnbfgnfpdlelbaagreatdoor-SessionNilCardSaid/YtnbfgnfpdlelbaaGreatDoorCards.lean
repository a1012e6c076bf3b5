/-
  DERIVED. GIVEN WITH THE SEED: THE CARDS: each row of YtnbfgnfpdlelbaaGreatDoorRows.lean that lists a variable, with what it lists TIED to the program's text (the seventh form; the later family's looks); each row that meets fmt, with fmt's text TOLD by the authors' own Lean function (tested against real Go, not proved from fmt's source: count such statements apart). THE CARD IS WHAT COUNTS. Prove the row's statement (the work); the ties are given (YtnbfgnfpdlelbaaGreatDoorTie.lean); close each card by the builder's one call (the guide's Derived/Test/ToyasCard.lean, 'card_holds'). Laid BY PROGRAM, IN A SANDBOX (cutbox-door.mjs). By AI agents, Wed Nov 11 2026. No macro, syntax, notation, axiom, sorry.
-/
import Derived.Test.YtnbfgnfpdlelbaaGreatDoorRows
import GoSem.ClaimSeven
namespace Go.Proofs.YtnbfgnfpdlelbaaGreatDoor
namespace Rows

/-- THE TIED CARD OF 'cubbyholelaw22.SessionNil'. -/
def sessionNilCard : Claim7 := { stood := { row := sessionNilRow, standIns := [], harness := (true, "92ca2bb02a82b48c798aa58cb8a200df3da134b924d9f13d47e02d6be0efcf0b"), looks := true }, kinds := [], alts := [], laidByText := true, laidKinds := [.data, .data, .data, .data, .sentinel, .sentinel, .listed, .sentinel, .data, .pinned], laidTests := true, laidLooks := .later }
def SessionNilCardSaid : Prop := Claim7.holds Tryz.pinned (.plain (OpenSpec.ofChange sessionNilSpec)) sessionNilCard

/-- THE SECOND FORM's CARD OF 'cubbyholelaw22.SessionNil'. -/
def sessionNilUptoCard : Claim7 := { stood := { row := sessionNilUptoRow, standIns := [], harness := (true, "92ca2bb02a82b48c798aa58cb8a200df3da134b924d9f13d47e02d6be0efcf0b"), looks := true }, kinds := [], alts := [], laidByText := true, laidKinds := [.data, .data, .data, .data, .sentinel, .sentinel, .listed, .sentinel, .data, .pinned], laidTests := true, laidLooks := .later }
def SessionNilUptoCardSaid : Prop := Claim7.holds Tryz.pinned (.plain (OpenSpec.upto sessionNilSpec)) sessionNilUptoCard
end Rows
end Go.Proofs.YtnbfgnfpdlelbaaGreatDoor
