/-
  DERIVED. GIVEN WITH THE SEED: THE CARDS: each row of YtomeffdgkllfeaaGreatDoorRows.lean that lists a variable, with what it lists TIED to the program's text (the seventh form; the later family's looks); each row that meets fmt, with fmt's text TOLD by the authors' own Lean function (tested against real Go, not proved from fmt's source: count such statements apart). THE CARD IS WHAT COUNTS. Prove the row's statement (the work); the ties are given (YtomeffdgkllfeaaGreatDoorTie.lean); close each card by the builder's one call (the guide's Derived/Test/ToyasCard.lean, 'card_holds'). Laid BY PROGRAM, IN A SANDBOX (cutbox-door.mjs). By AI agents, Wed Nov 11 2026. No macro, syntax, notation, axiom, sorry.
-/
import Derived.Test.YtomeffdgkllfeaaGreatDoorRows
import GoSem.ClaimSeven
namespace Go.Proofs.YtomeffdgkllfeaaGreatDoor
namespace Rows

/-- THE TIED CARD OF 'cubbyholelaw24.SchedBounds'. -/
def schedBoundsCard : Claim7 := { stood := { row := schedBoundsRow, standIns := [], harness := (true, "97e8b1cbfa1ac41231ee7cf7f444458cf84e4fc979b17313b9e2a7d304922f2d"), looks := true }, kinds := [], alts := [], laidByText := true, laidKinds := [.sentinel, .sentinel, .data, .data, .data, .data, .listed, .pinned, .data], laidTests := true, laidLooks := .later }
def SchedBoundsCardSaid : Prop := Claim7.holds Tryz.pinned (.plain (OpenSpec.ofChange schedBoundsSpec)) schedBoundsCard

/-- THE SECOND FORM's CARD OF 'cubbyholelaw24.SchedBounds'. -/
def schedBoundsUptoCard : Claim7 := { stood := { row := schedBoundsUptoRow, standIns := [], harness := (true, "97e8b1cbfa1ac41231ee7cf7f444458cf84e4fc979b17313b9e2a7d304922f2d"), looks := true }, kinds := [], alts := [], laidByText := true, laidKinds := [.sentinel, .sentinel, .data, .data, .data, .data, .listed, .pinned, .data], laidTests := true, laidLooks := .later }
def SchedBoundsUptoCardSaid : Prop := Claim7.holds Tryz.pinned (.plain (OpenSpec.upto schedBoundsSpec)) schedBoundsUptoCard
end Rows
end Go.Proofs.YtomeffdgkllfeaaGreatDoor
