/- TaskNil: for all arguments the law returns true, and the arguments are left as they were. Conditions: the listed package variables hold what the program's text lays. -/
import Derived.Test.YtnbfgnfpdlelbabGreatDoorTnCg
import Derived.Test.YtnbfgnfpdlelbabGreatDoorTnTi
import Derived.Test.YtnbfgnfpdlelbabGreatDoorCards
import Derived.WalkKit
import Derived.ProofKit
import Derived.OpenShut
import Derived.Deep.DeepHandedRow
set_option linter.unusedVariables false
namespace Go.Proofs.YtnbfgnfpdlelbabGreatDoor
open Go Go.Gx Go.Mx Go.Sx Go.ChangeShapes Go.WideShapes Go.ChangeAt Go.RowKit
theorem cw : Rows.taskNilRow.wfByText (OpenSpec.ofChange Rows.taskNilSpec) = true := by kernel_rfl
theorem cm : Tryz.pinned.checked.prog.mainIs = some (true, "85d968641c83afc706ac92decf0f1c23f9bca7869411d04cd112d3362eb45395".toList) := by kernel_rfl
theorem taskNil_holds : Rows.TaskNilCardSaid :=
 Claim7.holds_tied_plain_at .later [] _ _ _ _ said (fun _ h => by cases h) cw (fun _ h => by cases h) taskNil_row_tie rfl ⟨rfl, rfl⟩ cm rfl plain cg
#print axioms taskNil_holds
end Go.Proofs.YtnbfgnfpdlelbabGreatDoor
