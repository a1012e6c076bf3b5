/- CommandKeeps, the plain law at this seat. -/
import Derived.Test.YtifkhebojenhnaaGreatDoorCkFa
import Derived.Test.YtifkhebojenhnaaGreatDoorB7
namespace Go.Proofs.YtifkhebojenhnaaGreatDoor
open Go.Proofs.Model Go Go.Gx Go.Mx Go.Sx
theorem law(x:El (zae [.sl .u8]))(hw:Wf (zae [.sl .u8]) x):∃ N,qj N x.1=some (true,()):=⟨3000,znv x.1⟩
end Go.Proofs.YtifkhebojenhnaaGreatDoor
