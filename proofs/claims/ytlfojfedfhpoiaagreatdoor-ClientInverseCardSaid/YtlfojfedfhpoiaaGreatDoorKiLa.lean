/- ClientInverse, the plain law: Stream prints what the reference prints, and Read returns the commands. -/
import Derived.Test.YtlfojfedfhpoiaaGreatDoorKiFa
import Derived.Test.YtlfojfedfhpoiaaGreatDoorB5
set_option linter.unusedVariables false
set_option maxRecDepth 100000
namespace Go.Proofs.YtlfojfedfhpoiaaGreatDoor
open Go.Proofs.Model Go Go.Gx Go.Mx Go.Sx
theorem law(x:El (zaE [.sl uK2]))(hw:Wf (zaE [.sl uK2]) x):∃ N,qy N x.1=some (true,()):=znN x.1 hw.1.1 fun c hc=>zwi c (hw.1.2 c hc)
end Go.Proofs.YtlfojfedfhpoiaaGreatDoor
