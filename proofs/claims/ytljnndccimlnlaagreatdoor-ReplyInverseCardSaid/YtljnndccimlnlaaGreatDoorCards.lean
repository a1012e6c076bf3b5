/-
  DERIVED. GIVEN WITH THE SEED: THE CARDS: each row of YtljnndccimlnlaaGreatDoorRows.lean that lists a variable, with what it lists TIED to the program's text (the seventh form; the later family's looks); each row that meets fmt, with fmt's text TOLD by the authors' own Lean function (tested against real Go, not proved from fmt's source: count such statements apart). THE CARD IS WHAT COUNTS. Prove the row's statement (the work); the ties are given (YtljnndccimlnlaaGreatDoorTie.lean); close each card by the builder's one call (the guide's Derived/Test/ToyasCard.lean, 'card_holds'). Laid BY PROGRAM, IN A SANDBOX (cutbox-door.mjs). By AI agents, Wed Nov 11 2026. No macro, syntax, notation, axiom, sorry.
-/
import Derived.Test.YtljnndccimlnlaaGreatDoorRows
import GoSem.ClaimSeven
namespace Go.Proofs.YtljnndccimlnlaaGreatDoor
namespace Rows

/-- THE TIED CARD OF 'cubbyholelaw10.ReplyParses'. -/
def replyParsesCard : Claim7 := { stood := { row := replyParsesRow, standIns := [], harness := (true, "18ad094081464119313f8e178b9572599f1ff6a6c9f931364a5f85f1a9bf79aa"), looks := true }, kinds := [], alts := [], laidByText := true, laidKinds := [.data, .data, .data, .data, .sentinel, .sentinel, .listed, .data, .pinned], laidTests := true, laidLooks := .later }
def ReplyParsesCardSaid : Prop := Claim7.holds Tryz.pinned (.plain (OpenSpec.ofChange replyParsesSpec)) replyParsesCard

/-- THE TIED CARD OF 'cubbyholelaw10.ReplyReads'. -/
def replyReadsCard : Claim7 := { stood := { row := replyReadsRow, standIns := [], harness := (true, "18ad094081464119313f8e178b9572599f1ff6a6c9f931364a5f85f1a9bf79aa"), looks := true }, kinds := [], alts := [], laidByText := true, laidKinds := [.data, .data, .data, .data, .sentinel, .sentinel, .listed, .data, .pinned], laidTests := true, laidLooks := .later }
def ReplyReadsCardSaid : Prop := Claim7.holds Tryz.pinned (.plain (OpenSpec.ofChange replyReadsSpec)) replyReadsCard

/-- THE TIED CARD OF 'cubbyholelaw10.ReplyOnce'. -/
def replyOnceCard : Claim7 := { stood := { row := replyOnceRow, standIns := [], harness := (true, "18ad094081464119313f8e178b9572599f1ff6a6c9f931364a5f85f1a9bf79aa"), looks := true }, kinds := [], alts := [], laidByText := true, laidKinds := [.data, .data, .data, .data, .sentinel, .sentinel, .listed, .data, .pinned], laidTests := true, laidLooks := .later }
def ReplyOnceCardSaid : Prop := Claim7.holds Tryz.pinned (.plain (OpenSpec.ofChange replyOnceSpec)) replyOnceCard

/-- THE TIED CARD OF 'cubbyholelaw10.ReplyInverse'. -/
def replyInverseCard : Claim7 := { stood := { row := replyInverseRow, standIns := [], harness := (true, "18ad094081464119313f8e178b9572599f1ff6a6c9f931364a5f85f1a9bf79aa"), looks := true }, kinds := [], alts := [], laidByText := true, laidKinds := [.data, .data, .data, .data, .sentinel, .sentinel, .listed, .data, .pinned], laidTests := true, laidLooks := .later }
def ReplyInverseCardSaid : Prop := Claim7.holds Tryz.pinned (.plain (OpenSpec.ofChange replyInverseSpec)) replyInverseCard

/-- THE SECOND FORM's CARD OF 'cubbyholelaw10.ReplyParses'. -/
def replyParsesUptoCard : Claim7 := { stood := { row := replyParsesUptoRow, standIns := [], harness := (true, "18ad094081464119313f8e178b9572599f1ff6a6c9f931364a5f85f1a9bf79aa"), looks := true }, kinds := [], alts := [], laidByText := true, laidKinds := [.data, .data, .data, .data, .sentinel, .sentinel, .listed, .data, .pinned], laidTests := true, laidLooks := .later }
def ReplyParsesUptoCardSaid : Prop := Claim7.holds Tryz.pinned (.plain (OpenSpec.upto replyParsesSpec)) replyParsesUptoCard

/-- THE SECOND FORM's CARD OF 'cubbyholelaw10.ReplyReads'. -/
def replyReadsUptoCard : Claim7 := { stood := { row := replyReadsUptoRow, standIns := [], harness := (true, "18ad094081464119313f8e178b9572599f1ff6a6c9f931364a5f85f1a9bf79aa"), looks := true }, kinds := [], alts := [], laidByText := true, laidKinds := [.data, .data, .data, .data, .sentinel, .sentinel, .listed, .data, .pinned], laidTests := true, laidLooks := .later }
def ReplyReadsUptoCardSaid : Prop := Claim7.holds Tryz.pinned (.plain (OpenSpec.upto replyReadsSpec)) replyReadsUptoCard

/-- THE SECOND FORM's CARD OF 'cubbyholelaw10.ReplyOnce'. -/
def replyOnceUptoCard : Claim7 := { stood := { row := replyOnceUptoRow, standIns := [], harness := (true, "18ad094081464119313f8e178b9572599f1ff6a6c9f931364a5f85f1a9bf79aa"), looks := true }, kinds := [], alts := [], laidByText := true, laidKinds := [.data, .data, .data, .data, .sentinel, .sentinel, .listed, .data, .pinned], laidTests := true, laidLooks := .later }
def ReplyOnceUptoCardSaid : Prop := Claim7.holds Tryz.pinned (.plain (OpenSpec.upto replyOnceSpec)) replyOnceUptoCard

/-- THE SECOND FORM's CARD OF 'cubbyholelaw10.ReplyInverse'. -/
def replyInverseUptoCard : Claim7 := { stood := { row := replyInverseUptoRow, standIns := [], harness := (true, "18ad094081464119313f8e178b9572599f1ff6a6c9f931364a5f85f1a9bf79aa"), looks := true }, kinds := [], alts := [], laidByText := true, laidKinds := [.data, .data, .data, .data, .sentinel, .sentinel, .listed, .data, .pinned], laidTests := true, laidLooks := .later }
def ReplyInverseUptoCardSaid : Prop := Claim7.holds Tryz.pinned (.plain (OpenSpec.upto replyInverseSpec)) replyInverseUptoCard
end Rows
end Go.Proofs.YtljnndccimlnlaaGreatDoor
