/- ClientLong, the plain law: a line up to the limit can be sent. -/
import Derived.Test.YtlfojfedfhpoiaaGreatDoorKwFa
import Derived.Test.YtlfojfedfhpoiaaGreatDoorB6
set_option linter.unusedVariables false
set_option maxRecDepth 100000
namespace Go.Proofs.YtlfojfedfhpoiaaGreatDoor
open Go.Proofs.Model Go Go.Gx Go.Mx Go.Sx
theorem law(x:El (ki [.u8]))(hw:Wf (ki [.u8]) x):∃ N,qe N x.1=some (true,()):=⟨200000,znz x.1⟩
end Go.Proofs.YtlfojfedfhpoiaaGreatDoor
