/- CommandCases, the plain law: capitals change only the tag and the mailbox. -/
import Derived.Test.YtofnacdgdlbfmaaGreatDoorCcFa
import Derived.Test.YtofnacdgdlbfmaaGreatDoorB7
namespace Go.Proofs.YtofnacdgdlbfmaaGreatDoor
open Go.Proofs.Model Go Go.Gx Go.Mx Go.Sx
theorem law (x : El (zbs [.sl .u8])) (hw : Wf (zbs [.sl .u8]) x) : ∃ N, zW N x.1 = some (true, ()) := Go.Proofs.Model.law x hw
end Go.Proofs.YtofnacdgdlbfmaaGreatDoor
