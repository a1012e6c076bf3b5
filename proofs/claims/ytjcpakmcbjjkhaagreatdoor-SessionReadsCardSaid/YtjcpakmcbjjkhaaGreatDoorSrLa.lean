/- SessionReads, the plain law: Read returns the command or the mistake of the reference. -/
import Derived.Test.YtjcpakmcbjjkhaaGreatDoorSrFa
import Derived.Test.YtjcpakmcbjjkhaaGreatDoorB7
namespace Go.Proofs.YtjcpakmcbjjkhaaGreatDoor
open Go.Proofs.Model Go Go.Gx Go.Mx Go.Sx
theorem law (x : El (zbm [.int .i64, .sl .u8])) (hw : Wf (zbm [.int .i64, .sl .u8]) x) : ∃ N, zV N x.1 x.2.1 = some (true, ()) := Go.Proofs.Model.law x hw
end Go.Proofs.YtjcpakmcbjjkhaaGreatDoor
