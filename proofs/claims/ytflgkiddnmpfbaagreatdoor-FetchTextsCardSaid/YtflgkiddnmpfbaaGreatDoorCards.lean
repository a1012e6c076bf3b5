/-
  DERIVED. GIVEN WITH THE SEED: THE CARDS: each row of YtflgkiddnmpfbaaGreatDoorRows.lean that lists a variable, with what it lists TIED to the program's text (the seventh form; the later family's looks); each row that meets fmt, with fmt's text TOLD by the authors' own Lean function (tested against real Go, not proved from fmt's source: count such statements apart). THE CARD IS WHAT COUNTS. Prove the row's statement (the work); the ties are given (YtflgkiddnmpfbaaGreatDoorTie.lean); close each card by the builder's one call (the guide's Derived/Test/ToyasCard.lean, 'card_holds'). Laid BY PROGRAM, IN A SANDBOX (cutbox-door.mjs). By AI agents, Wed Nov 11 2026. No macro, syntax, notation, axiom, sorry.
-/
import Derived.Test.YtflgkiddnmpfbaaGreatDoorRows
import GoSem.ClaimSeven
namespace Go.Proofs.YtflgkiddnmpfbaaGreatDoor
namespace Rows

/-- THE TIED CARD OF 'cubbyholelaw08.ClientRetags'. -/
def clientRetagsCard : Claim7 := { stood := { row := clientRetagsRow, standIns := [], harness := (true, "658cb4e4b774b1a4fdcbcf538ca905b26208312f482862dad8ce338fee4a0028"), looks := true }, kinds := [], alts := [], laidByText := true, laidKinds := [.data, .data, .data, .sentinel, .sentinel, .listed, .data], laidTests := true, laidLooks := .later }
def ClientRetagsCardSaid : Prop := Claim7.holds Tryz.pinned (.plain (OpenSpec.ofChange clientRetagsSpec)) clientRetagsCard

/-- THE TIED CARD OF 'cubbyholelaw07.CommandNames'. -/
def commandNamesCard : Claim7 := { stood := { row := commandNamesRow, standIns := [], harness := (true, "658cb4e4b774b1a4fdcbcf538ca905b26208312f482862dad8ce338fee4a0028"), looks := true }, kinds := [], alts := [], laidByText := true, laidKinds := [.data, .data, .data, .data, .sentinel, .sentinel, .listed, .data, .pinned], laidTests := true, laidLooks := .later }
def CommandNamesCardSaid : Prop := Claim7.holds Tryz.pinned (.plain (OpenSpec.ofChange commandNamesSpec)) commandNamesCard

/-- THE TIED CARD OF 'cubbyholelaw07.CommandSame'. -/
def commandSameCard : Claim7 := { stood := { row := commandSameRow, standIns := [], harness := (true, "658cb4e4b774b1a4fdcbcf538ca905b26208312f482862dad8ce338fee4a0028"), looks := true }, kinds := [], alts := [], laidByText := true, laidKinds := [.data, .data, .data, .data, .sentinel, .sentinel, .listed, .data, .pinned], laidTests := true, laidLooks := .later }
def CommandSameCardSaid : Prop := Claim7.holds Tryz.pinned (.plain (OpenSpec.ofChange commandSameSpec)) commandSameCard

/-- THE TIED CARD OF 'cubbyholelaw10.ReplyPicks'. -/
def replyPicksCard : Claim7 := { stood := { row := replyPicksRow, standIns := [], harness := (true, "658cb4e4b774b1a4fdcbcf538ca905b26208312f482862dad8ce338fee4a0028"), looks := true }, kinds := [], alts := [], laidByText := true, laidKinds := [.data, .data, .data, .data, .sentinel, .sentinel, .listed, .data, .pinned], laidTests := true, laidLooks := .later }
def ReplyPicksCardSaid : Prop := Claim7.holds Tryz.pinned (.plain (OpenSpec.ofChange replyPicksSpec)) replyPicksCard

/-- THE TIED CARD OF 'cubbyholelaw25.AuditOrders'. -/
def auditOrdersCard : Claim7 := { stood := { row := auditOrdersRow, standIns := [], harness := (true, "658cb4e4b774b1a4fdcbcf538ca905b26208312f482862dad8ce338fee4a0028"), looks := true }, kinds := [], alts := [], laidByText := true, laidKinds := [.data, .data, .data, .data, .sentinel, .sentinel, .listed, .data, .pinned], laidTests := true, laidLooks := .later }
def AuditOrdersCardSaid : Prop := Claim7.holds Tryz.pinned (.plain (OpenSpec.ofChange auditOrdersSpec)) auditOrdersCard

/-- THE TIED CARD OF 'cubbyholelaw19.FetchTexts'. -/
def fetchTextsCard : Claim7 := { stood := { row := fetchTextsRow, standIns := [], harness := (true, "658cb4e4b774b1a4fdcbcf538ca905b26208312f482862dad8ce338fee4a0028"), looks := true }, kinds := [], alts := [], laidByText := true, laidKinds := [.data, .data, .data, .listed, .data], laidTests := true, laidLooks := .later }
def FetchTextsCardSaid : Prop := Claim7.holds Tryz.pinned (.plain (OpenSpec.ofChange fetchTextsSpec)) fetchTextsCard

/-- THE SECOND FORM's CARD OF 'cubbyholelaw08.ClientRetags'. -/
def clientRetagsUptoCard : Claim7 := { stood := { row := clientRetagsUptoRow, standIns := [], harness := (true, "658cb4e4b774b1a4fdcbcf538ca905b26208312f482862dad8ce338fee4a0028"), looks := true }, kinds := [], alts := [], laidByText := true, laidKinds := [.data, .data, .data, .sentinel, .sentinel, .listed, .data], laidTests := true, laidLooks := .later }
def ClientRetagsUptoCardSaid : Prop := Claim7.holds Tryz.pinned (.plain (OpenSpec.upto clientRetagsSpec)) clientRetagsUptoCard

/-- THE SECOND FORM's CARD OF 'cubbyholelaw07.CommandNames'. -/
def commandNamesUptoCard : Claim7 := { stood := { row := commandNamesUptoRow, standIns := [], harness := (true, "658cb4e4b774b1a4fdcbcf538ca905b26208312f482862dad8ce338fee4a0028"), looks := true }, kinds := [], alts := [], laidByText := true, laidKinds := [.data, .data, .data, .data, .sentinel, .sentinel, .listed, .data, .pinned], laidTests := true, laidLooks := .later }
def CommandNamesUptoCardSaid : Prop := Claim7.holds Tryz.pinned (.plain (OpenSpec.upto commandNamesSpec)) commandNamesUptoCard

/-- THE SECOND FORM's CARD OF 'cubbyholelaw07.CommandSame'. -/
def commandSameUptoCard : Claim7 := { stood := { row := commandSameUptoRow, standIns := [], harness := (true, "658cb4e4b774b1a4fdcbcf538ca905b26208312f482862dad8ce338fee4a0028"), looks := true }, kinds := [], alts := [], laidByText := true, laidKinds := [.data, .data, .data, .data, .sentinel, .sentinel, .listed, .data, .pinned], laidTests := true, laidLooks := .later }
def CommandSameUptoCardSaid : Prop := Claim7.holds Tryz.pinned (.plain (OpenSpec.upto commandSameSpec)) commandSameUptoCard

/-- THE SECOND FORM's CARD OF 'cubbyholelaw10.ReplyPicks'. -/
def replyPicksUptoCard : Claim7 := { stood := { row := replyPicksUptoRow, standIns := [], harness := (true, "658cb4e4b774b1a4fdcbcf538ca905b26208312f482862dad8ce338fee4a0028"), looks := true }, kinds := [], alts := [], laidByText := true, laidKinds := [.data, .data, .data, .data, .sentinel, .sentinel, .listed, .data, .pinned], laidTests := true, laidLooks := .later }
def ReplyPicksUptoCardSaid : Prop := Claim7.holds Tryz.pinned (.plain (OpenSpec.upto replyPicksSpec)) replyPicksUptoCard

/-- THE SECOND FORM's CARD OF 'cubbyholelaw25.AuditOrders'. -/
def auditOrdersUptoCard : Claim7 := { stood := { row := auditOrdersUptoRow, standIns := [], harness := (true, "658cb4e4b774b1a4fdcbcf538ca905b26208312f482862dad8ce338fee4a0028"), looks := true }, kinds := [], alts := [], laidByText := true, laidKinds := [.data, .data, .data, .data, .sentinel, .sentinel, .listed, .data, .pinned], laidTests := true, laidLooks := .later }
def AuditOrdersUptoCardSaid : Prop := Claim7.holds Tryz.pinned (.plain (OpenSpec.upto auditOrdersSpec)) auditOrdersUptoCard

/-- THE SECOND FORM's CARD OF 'cubbyholelaw19.FetchTexts'. -/
def fetchTextsUptoCard : Claim7 := { stood := { row := fetchTextsUptoRow, standIns := [], harness := (true, "658cb4e4b774b1a4fdcbcf538ca905b26208312f482862dad8ce338fee4a0028"), looks := true }, kinds := [], alts := [], laidByText := true, laidKinds := [.data, .data, .data, .listed, .data], laidTests := true, laidLooks := .later }
def FetchTextsUptoCardSaid : Prop := Claim7.holds Tryz.pinned (.plain (OpenSpec.upto fetchTextsSpec)) fetchTextsUptoCard
end Rows
end Go.Proofs.YtflgkiddnmpfbaaGreatDoor
