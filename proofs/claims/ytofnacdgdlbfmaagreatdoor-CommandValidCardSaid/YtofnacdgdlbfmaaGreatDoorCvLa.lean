/- CommandValid, the plain law: what Parse returns is valid, and Valid returns the result of the reference. -/
import Derived.Test.YtofnacdgdlbfmaaGreatDoorCvFa
import Derived.Test.YtofnacdgdlbfmaaGreatDoorB7
namespace Go.Proofs.YtofnacdgdlbfmaaGreatDoor
open Go.Proofs.Model Go Go.Gx Go.Mx Go.Sx
theorem law (x : El (zbj [uS2, .sl .u8])) (hw : Wf (zbj [uS2, .sl .u8]) x) : ∃ N, zP N x.1 x.2.1 = some (true, ()) := Go.Proofs.Model.law x hw
end Go.Proofs.YtofnacdgdlbfmaaGreatDoor
