/- SessionNil: for all arguments the law returns true, and the arguments are left as they were. Conditions: the listed package variables hold what the program's text lays. -/
import Derived.Test.YtnbfgnfpdlelbaaGreatDoorSnCg
import Derived.Test.YtnbfgnfpdlelbaaGreatDoorCards
import Derived.Test.YtnbfgnfpdlelbaaGreatDoorTie
import Derived.WalkKit
import Derived.ProofKit
import Derived.OpenShut
import Derived.Deep.DeepHandedRow
set_option linter.unusedVariables false
namespace Go.Proofs.YtnbfgnfpdlelbaaGreatDoor
open Go Go.Gx Go.Mx Go.Sx Go.ChangeShapes Go.WideShapes Go.ChangeAt Go.RowKit
theorem cw : Rows.sessionNilRow.wfByText (OpenSpec.ofChange Rows.sessionNilSpec) = true := by kernel_rfl
theorem cm : Tryz.pinned.checked.prog.mainIs = some (true, "92ca2bb02a82b48c798aa58cb8a200df3da134b924d9f13d47e02d6be0efcf0b".toList) := by kernel_rfl
theorem sessionNil_holds : Rows.SessionNilCardSaid :=
 Claim7.holds_tied_plain_at .later [] _ _ _ _ said (fun _ h => by cases h) cw (fun _ h => by cases h) sessionNil_row_tie rfl ⟨rfl, rfl⟩ cm rfl plain cg
#print axioms sessionNil_holds
end Go.Proofs.YtnbfgnfpdlelbaaGreatDoor
