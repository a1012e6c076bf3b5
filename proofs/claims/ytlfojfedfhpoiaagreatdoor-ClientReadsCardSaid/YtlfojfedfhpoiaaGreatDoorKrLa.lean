/- ClientReads, the plain law: Read returns the commands of the reference, or false. -/
import Derived.Test.YtlfojfedfhpoiaaGreatDoorKrFa
import Derived.Test.YtlfojfedfhpoiaaGreatDoorB7
set_option linter.unusedVariables false
set_option maxRecDepth 100000
namespace Go.Proofs.YtlfojfedfhpoiaaGreatDoor
open Go.Proofs.Model Go Go.Gx Go.Mx Go.Sx
theorem law(x:El (zbp [.sl .u8]))(hw:Wf (zbp [.sl .u8]) x):∃ N,qL N x.1=some (true,()):=⟨200000,zpZ x.1⟩
end Go.Proofs.YtlfojfedfhpoiaaGreatDoor
