/- What the start lays. -/
import Derived.Test.YtnbfgnfpdlelbabGreatDoorRows
import Derived.Test.YtnbfgnfpdlelbabGreatDoorTnTj
import Derived.LaidByTextLater
import Derived.SevenTiedAt
import Derived.LaidOnce
import Derived.KernelRfl
namespace Go.Proofs.YtnbfgnfpdlelbabGreatDoor
open Go
theorem t6 : varsNamedLaterB Tryz.prog (varsId Tryz.prog) zev = true := by kernel_rfl
theorem t7 : ∀ os tape, doorLeaves Tryz.prog 400 8 257 zev os tape = some (zev.filter fun x => x.2.handleName?.isNone, (funcsListed zev).map (·.2.funcsOut)) := fun _ _ => by kernel_rfl
end Go.Proofs.YtnbfgnfpdlelbabGreatDoor
