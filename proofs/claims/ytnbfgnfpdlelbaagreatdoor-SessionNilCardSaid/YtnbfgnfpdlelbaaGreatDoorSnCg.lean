/- SessionNil: for all arguments the law returns true, and the arguments are left as they were. Conditions: the listed package variables hold what the program's text lays. -/
import Derived.Test.YtnbfgnfpdlelbaaGreatDoorSnCb
import Derived.Test.YtnbfgnfpdlelbaaGreatDoorCards
import Derived.Test.YtnbfgnfpdlelbaaGreatDoorTie
import Derived.WalkKit
import Derived.ProofKit
import Derived.OpenShut
import Derived.Deep.DeepHandedRow
set_option linter.unusedVariables false
namespace Go.Proofs.YtnbfgnfpdlelbaaGreatDoor
open Go Go.Gx Go.Mx Go.Sx Go.ChangeShapes Go.WideShapes Go.ChangeAt Go.RowKit
theorem cg : false = Rows.sessionNilRow.goesBy Tryz.pinned.checked.prog := by kernel_rfl
end Go.Proofs.YtnbfgnfpdlelbaaGreatDoor
