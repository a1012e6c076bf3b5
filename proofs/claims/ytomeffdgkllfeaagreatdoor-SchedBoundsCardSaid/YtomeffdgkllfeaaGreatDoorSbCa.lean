/- SchedBounds: for all arguments the law returns true, and the arguments are left as they were. Conditions: the listed package variables hold what the program's text lays. -/
import Derived.Test.YtomeffdgkllfeaaGreatDoorSbCg
import Derived.Test.YtomeffdgkllfeaaGreatDoorCards
import Derived.Test.YtomeffdgkllfeaaGreatDoorSbTi
import Derived.WalkKit
import Derived.ProofKit
import Derived.OpenShut
import Derived.Deep.DeepHandedRow
set_option linter.unusedVariables false
namespace Go.Proofs.YtomeffdgkllfeaaGreatDoor
open Go.Proofs.Model Go Go.Gx Go.Mx Go.Sx Go.ChangeShapes Go.WideShapes Go.ChangeAt Go.RowKit
theorem cw:Rows.schedBoundsRow.wfByText (OpenSpec.ofChange Rows.schedBoundsSpec)=true:=by kernel_rfl
theorem cm:Tryz.pinned.checked.prog.mainIs=some (true,"97e8b1cbfa1ac41231ee7cf7f444458cf84e4fc979b17313b9e2a7d304922f2d".toList):=by kernel_rfl
theorem schedBounds_holds:Rows.SchedBoundsCardSaid:=
 Claim7.holds_tied_plain_at .later [] _ _ _ _ said (fun _ h=>by cases h) cw (fun _ h=>by cases h) schedBounds_row_tie rfl ⟨rfl,rfl⟩ cm rfl plain cg
#print axioms schedBounds_holds
end Go.Proofs.YtomeffdgkllfeaaGreatDoor
