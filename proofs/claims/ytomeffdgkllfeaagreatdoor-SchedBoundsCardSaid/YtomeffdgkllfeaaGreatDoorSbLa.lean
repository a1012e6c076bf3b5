/- SchedBounds, the plain law at this seat. -/
import Derived.Test.YtomeffdgkllfeaaGreatDoorSbFa
import Derived.Test.YtomeffdgkllfeaaGreatDoorB6
namespace Go.Proofs.YtomeffdgkllfeaaGreatDoor
open Go.Proofs.Model Go Go.Gx Go.Mx Go.Sx
theorem law(x:El (kb [uB2,.sl (.sl .u8)]))(hw:Wf (kb [uB2,.sl (.sl .u8)]) x):∃ N,zR N x.1 x.2.1=some (true,()):=zkB x hw
end Go.Proofs.YtomeffdgkllfeaaGreatDoor
