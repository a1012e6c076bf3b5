/- What the start lays. -/
import Derived.Test.YtjojhgpaaocnoaaGreatDoorRows
import Derived.Test.YtjojhgpaaocnoaaGreatDoorSqTj
import Derived.LaidByTextLater
import Derived.SevenTiedAt
import Derived.LaidOnce
import Derived.KernelRfl
namespace Go.Proofs.YtjojhgpaaocnoaaGreatDoor
open Go
theorem t6:varsNamedLaterB Tryz.prog (varsId Tryz.prog) ziq=true:=by kernel_rfl
theorem t7:∀ os tape,doorLeaves Tryz.prog 400 8 257 ziq os tape=some (ziq.filter fun x=>x.2.handleName?.isNone,(funcsListed ziq).map (·.2.funcsOut)):=fun _ _=>by kernel_rfl
end Go.Proofs.YtjojhgpaaocnoaaGreatDoor
