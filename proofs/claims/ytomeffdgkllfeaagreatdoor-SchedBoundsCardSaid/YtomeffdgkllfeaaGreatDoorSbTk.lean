/- What the start lays. -/
import Derived.Test.YtomeffdgkllfeaaGreatDoorRows
import Derived.Test.YtomeffdgkllfeaaGreatDoorSbTj
import Derived.LaidByTextLater
import Derived.SevenTiedAt
import Derived.LaidOnce
import Derived.KernelRfl
namespace Go.Proofs.YtomeffdgkllfeaaGreatDoor
open Go
theorem t6:varsNamedLaterB Tryz.prog (varsId Tryz.prog) zif=true:=by kernel_rfl
theorem t7:∀ os tape,doorLeaves Tryz.prog 400 8 257 zif os tape=some (zif.filter fun x=>x.2.handleName?.isNone,(funcsListed zif).map (·.2.funcsOut)):=fun _ _=>by kernel_rfl
end Go.Proofs.YtomeffdgkllfeaaGreatDoor
