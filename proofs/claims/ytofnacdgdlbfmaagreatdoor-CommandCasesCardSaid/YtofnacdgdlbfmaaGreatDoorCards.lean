/-
  DERIVED. GIVEN WITH THE SEED: THE CARDS: each row of YtofnacdgdlbfmaaGreatDoorRows.lean that lists a variable, with what it lists TIED to the program's text (the seventh form; the later family's looks); each row that meets fmt, with fmt's text TOLD by the authors' own Lean function (tested against real Go, not proved from fmt's source: count such statements apart). THE CARD IS WHAT COUNTS. Prove the row's statement (the work); the ties are given (YtofnacdgdlbfmaaGreatDoorTie.lean); close each card by the builder's one call (the guide's Derived/Test/ToyasCard.lean, 'card_holds'). Laid BY PROGRAM, IN A SANDBOX (cutbox-door.mjs). By AI agents, Wed Nov 11 2026. No macro, syntax, notation, axiom, sorry.
-/
import Derived.Test.YtofnacdgdlbfmaaGreatDoorRows
import GoSem.ClaimSeven
namespace Go.Proofs.YtofnacdgdlbfmaaGreatDoor
namespace Rows

/-- THE TIED CARD OF 'cubbyholelaw07.CommandParses'. -/
def commandParsesCard : Claim7 := { stood := { row := commandParsesRow, standIns := [], harness := (true, "32c285757f720cfad459e3ce78561415a08ca0836133dbfd678ad838ecf0ba00"), looks := true }, kinds := [], alts := [], laidByText := true, laidKinds := [.data, .data, .data, .data, .sentinel, .sentinel, .listed, .data, .pinned], laidTests := true, laidLooks := .later }
def CommandParsesCardSaid : Prop := Claim7.holds Tryz.pinned (.plain (OpenSpec.ofChange commandParsesSpec)) commandParsesCard

/-- THE TIED CARD OF 'cubbyholelaw07.CommandCases'. -/
def commandCasesCard : Claim7 := { stood := { row := commandCasesRow, standIns := [], harness := (true, "32c285757f720cfad459e3ce78561415a08ca0836133dbfd678ad838ecf0ba00"), looks := true }, kinds := [], alts := [], laidByText := true, laidKinds := [.data, .data, .data, .data, .sentinel, .sentinel, .listed, .data, .pinned], laidTests := true, laidLooks := .later }
def CommandCasesCardSaid : Prop := Claim7.holds Tryz.pinned (.plain (OpenSpec.ofChange commandCasesSpec)) commandCasesCard

/-- THE TIED CARD OF 'cubbyholelaw07.CommandValid'. -/
def commandValidCard : Claim7 := { stood := { row := commandValidRow, standIns := [], harness := (true, "32c285757f720cfad459e3ce78561415a08ca0836133dbfd678ad838ecf0ba00"), looks := true }, kinds := [], alts := [], laidByText := true, laidKinds := [.data, .data, .data, .data, .sentinel, .sentinel, .listed, .data, .pinned], laidTests := true, laidLooks := .later }
def CommandValidCardSaid : Prop := Claim7.holds Tryz.pinned (.plain (OpenSpec.ofChange commandValidSpec)) commandValidCard

/-- THE SECOND FORM's CARD OF 'cubbyholelaw07.CommandParses'. -/
def commandParsesUptoCard : Claim7 := { stood := { row := commandParsesUptoRow, standIns := [], harness := (true, "32c285757f720cfad459e3ce78561415a08ca0836133dbfd678ad838ecf0ba00"), looks := true }, kinds := [], alts := [], laidByText := true, laidKinds := [.data, .data, .data, .data, .sentinel, .sentinel, .listed, .data, .pinned], laidTests := true, laidLooks := .later }
def CommandParsesUptoCardSaid : Prop := Claim7.holds Tryz.pinned (.plain (OpenSpec.upto commandParsesSpec)) commandParsesUptoCard

/-- THE SECOND FORM's CARD OF 'cubbyholelaw07.CommandCases'. -/
def commandCasesUptoCard : Claim7 := { stood := { row := commandCasesUptoRow, standIns := [], harness := (true, "32c285757f720cfad459e3ce78561415a08ca0836133dbfd678ad838ecf0ba00"), looks := true }, kinds := [], alts := [], laidByText := true, laidKinds := [.data, .data, .data, .data, .sentinel, .sentinel, .listed, .data, .pinned], laidTests := true, laidLooks := .later }
def CommandCasesUptoCardSaid : Prop := Claim7.holds Tryz.pinned (.plain (OpenSpec.upto commandCasesSpec)) commandCasesUptoCard

/-- THE SECOND FORM's CARD OF 'cubbyholelaw07.CommandValid'. -/
def commandValidUptoCard : Claim7 := { stood := { row := commandValidUptoRow, standIns := [], harness := (true, "32c285757f720cfad459e3ce78561415a08ca0836133dbfd678ad838ecf0ba00"), looks := true }, kinds := [], alts := [], laidByText := true, laidKinds := [.data, .data, .data, .data, .sentinel, .sentinel, .listed, .data, .pinned], laidTests := true, laidLooks := .later }
def CommandValidUptoCardSaid : Prop := Claim7.holds Tryz.pinned (.plain (OpenSpec.upto commandValidSpec)) commandValidUptoCard
end Rows
end Go.Proofs.YtofnacdgdlbfmaaGreatDoor
