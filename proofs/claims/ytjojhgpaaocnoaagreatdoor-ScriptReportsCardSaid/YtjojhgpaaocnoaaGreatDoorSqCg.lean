/- ScriptReports: for all arguments the law returns true, and the arguments are left as they were. Conditions: the listed package variables hold what the program's text lays. -/
import Derived.Test.YtjojhgpaaocnoaaGreatDoorSqCb
import Derived.Test.YtjojhgpaaocnoaaGreatDoorCards
import Derived.Test.YtjojhgpaaocnoaaGreatDoorSqTi
import Derived.WalkKit
import Derived.ProofKit
import Derived.OpenShut
import Derived.Deep.DeepHandedRow
set_option linter.unusedVariables false
namespace Go.Proofs.YtjojhgpaaocnoaaGreatDoor
open Go.Proofs.Model Go Go.Gx Go.Mx Go.Sx Go.ChangeShapes Go.WideShapes Go.ChangeAt Go.RowKit
theorem cg0:Tryz.prog.funcs.toList.all (fun f=>!f.goes)=true:=by kernel_rfl
theorem zpg{P:Program}(h:P.funcs.toList.all (fun f=>!f.goes)=true)(f:FuncId):P.goes f=false:=by
 have h1:∀ (g:Nat) (fn:Func),P.funcs[g]?=some fn->fn.goes=false:=fun g fn hg=>by
  have:=List.all_eq_true.1 h fn (by rw[Array.mem_toList_iff];exact Array.mem_of_getElem? hg)
  simpa using this
 have h2:P.funcs.any Func.goes=false:=by
  rw[Array.any_eq_false]
  intro i hi
  rw[h1 i _ (Array.getElem?_eq_getElem hi)];simp
 unfold Program.goes
 rw[h2,Bool.and_false,Bool.or_false,List.any_eq_false]
 intro g _
 cases hg:P.funcs[g]? with
 |none=>simp
 |some fn=>have:=h1 g fn hg;simp [this]
theorem zqK{P:Program}(h:P.funcs.toList.all (fun f=>!f.goes)=true)(c:OpenClaim):false=c.goesBy P:=by
 unfold OpenClaim.goesBy Program.goesAt Program.goesFrom
 have h1:(P.funcNamed c.func).any P.goes=false:=by cases P.funcNamed c.func<;>simp [zpg h]
 have h2:P.inits.toList.any P.goes=false:=by rw[List.any_eq_false];intro x _;simp [zpg h]
 rw[h1]
 cases c.start<;>simp [h2]
theorem cg:false=Rows.scriptReportsRow.goesBy Tryz.pinned.checked.prog:=zqK cg0 _
end Go.Proofs.YtjojhgpaaocnoaaGreatDoor
