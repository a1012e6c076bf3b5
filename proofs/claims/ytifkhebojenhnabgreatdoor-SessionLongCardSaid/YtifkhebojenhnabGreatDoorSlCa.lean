/- SessionLong: for all arguments the law returns true, and the arguments are left as they were. Conditions: the listed package variables hold what the program's text lays. -/
import Derived.Test.YtifkhebojenhnabGreatDoorSlCg
import Derived.Test.YtifkhebojenhnabGreatDoorCards
import Derived.Test.YtifkhebojenhnabGreatDoorTie
import Derived.WalkKit
import Derived.ProofKit
import Derived.OpenShut
import Derived.Deep.DeepHandedRow
set_option linter.unusedVariables false
namespace Go.Proofs.YtifkhebojenhnabGreatDoor
open Go Go.Gx Go.Mx Go.Sx Go.ChangeShapes Go.WideShapes Go.ChangeAt Go.RowKit
theorem cw:Rows.sessionLongRow.wfByText (OpenSpec.ofChange Rows.sessionLongSpec)=true:=by kernel_rfl
theorem cm:Tryz.pinned.checked.prog.mainIs=some (true,"6d6714c4d1b1e016134ef8c53618b2bb8410bfaf7ffa94e8d53dc06d2dc098df".toList):=by kernel_rfl
theorem sessionLong_holds:Rows.SessionLongCardSaid:=
 Claim7.holds_tied_plain_at .later [] _ _ _ _ said (fun _ h=>by cases h) cw (fun _ h=>by cases h) sessionLong_row_tie rfl ⟨rfl,rfl⟩ cm rfl plain cg
#print axioms sessionLong_holds
end Go.Proofs.YtifkhebojenhnabGreatDoor
