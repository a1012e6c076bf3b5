/- SessionReads: for all arguments the law returns true, and the arguments are left as they were. Conditions: the listed package variables hold what the program's text lays. -/
import Derived.Test.YtjcpakmcbjjkhaaGreatDoorSrCg
import Derived.Test.YtjcpakmcbjjkhaaGreatDoorSrTi
import Derived.Test.YtjcpakmcbjjkhaaGreatDoorCards
import Derived.WalkKit
import Derived.ProofKit
import Derived.OpenShut
import Derived.Deep.DeepHandedRow
set_option linter.unusedVariables false
namespace Go.Proofs.YtjcpakmcbjjkhaaGreatDoor
open Go.Proofs.Model Go Go.Gx Go.Mx Go.Sx Go.ChangeShapes Go.WideShapes Go.ChangeAt Go.RowKit
theorem cw : Rows.sessionReadsRow.wfByText (OpenSpec.ofChange Rows.sessionReadsSpec) = true := by kernel_rfl
theorem cm : Tryz.pinned.checked.prog.mainIs = some (true, "4016211ed478176fa81aba528d2d8df09719c4506dda5c060240ec45809b753e".toList) := by kernel_rfl
theorem sessionReads_holds : Rows.SessionReadsCardSaid :=
 Claim7.holds_tied_plain_at .later [] _ _ _ _ said (fun _ h => by cases h) cw (fun _ h => by cases h) sessionReads_row_tie rfl ⟨rfl, rfl⟩ cm rfl plain cg
#print axioms sessionReads_holds
end Go.Proofs.YtjcpakmcbjjkhaaGreatDoor
