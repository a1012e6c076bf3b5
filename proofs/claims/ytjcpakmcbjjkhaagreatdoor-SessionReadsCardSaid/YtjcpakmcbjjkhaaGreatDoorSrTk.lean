/- What the start lays. -/
import Derived.Test.YtjcpakmcbjjkhaaGreatDoorRows
import Derived.Test.YtjcpakmcbjjkhaaGreatDoorSrTj
import Derived.LaidByTextLater
import Derived.SevenTiedAt
import Derived.LaidOnce
import Derived.KernelRfl
namespace Go.Proofs.YtjcpakmcbjjkhaaGreatDoor
open Go
theorem t6 : varsNamedLaterB Tryz.prog (varsId Tryz.prog) zk8 = true := by kernel_rfl
theorem t7 : ∀ os tape, doorLeaves Tryz.prog 400 8 257 zk8 os tape = some (zk8.filter fun x => x.2.handleName?.isNone, (funcsListed zk8).map (·.2.funcsOut)) := fun _ _ => by kernel_rfl
end Go.Proofs.YtjcpakmcbjjkhaaGreatDoor
