/- ScriptReports: for all arguments the law returns true, and the arguments are left as they were. Conditions: the listed package variables hold what the program's text lays. -/
import Derived.Test.YtjojhgpaaocnoaaGreatDoorSqCg
import Derived.Test.YtjojhgpaaocnoaaGreatDoorCards
import Derived.Test.YtjojhgpaaocnoaaGreatDoorSqTi
import Derived.WalkKit
import Derived.ProofKit
import Derived.OpenShut
import Derived.Deep.DeepHandedRow
set_option linter.unusedVariables false
namespace Go.Proofs.YtjojhgpaaocnoaaGreatDoor
open Go.Proofs.Model Go Go.Gx Go.Mx Go.Sx Go.ChangeShapes Go.WideShapes Go.ChangeAt Go.RowKit
theorem cw:Rows.scriptReportsRow.wfByText (OpenSpec.ofChange Rows.scriptReportsSpec)=true:=by kernel_rfl
theorem cm:Tryz.pinned.checked.prog.mainIs=some (true,"33335bfb6bcc5534b0e7e61f87949cd516c7bed7433695e47f24161facf667e9".toList):=by kernel_rfl
theorem scriptReports_holds:Rows.ScriptReportsCardSaid:=
 Claim7.holds_tied_plain_at .later [] _ _ _ _ said (fun _ h=>by cases h) cw (fun _ h=>by cases h) scriptReports_row_tie rfl ⟨rfl,rfl⟩ cm rfl plain cg
#print axioms scriptReports_holds
end Go.Proofs.YtjojhgpaaocnoaaGreatDoor
