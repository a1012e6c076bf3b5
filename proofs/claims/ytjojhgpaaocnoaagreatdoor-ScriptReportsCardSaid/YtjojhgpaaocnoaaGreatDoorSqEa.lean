/- The chapter's example, run in the machine. -/
import Derived.Test.YtjojhgpaaocnoaaGreatDoorSqHp
set_option maxRecDepth 100000
namespace Go.Proofs.YtjojhgpaaocnoaaGreatDoor
open Go Go.Gx Go.Mx Go.Sx
theorem a4A:zkz true (zcb Tryz.prog (qQ Tryz.prog (zgd tab) 6000) 4 [] hgA)=true:=by kernel_rfl
end Go.Proofs.YtjojhgpaaocnoaaGreatDoor
