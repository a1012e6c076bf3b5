/- ClientParses, the plain law: Parse returns the command that Print printed. -/
import Derived.Test.YtlfojfedfhpoiaaGreatDoorKqFa
import Derived.Test.YtlfojfedfhpoiaaGreatDoorB5
set_option linter.unusedVariables false
set_option maxRecDepth 100000
namespace Go.Proofs.YtlfojfedfhpoiaaGreatDoor
open Go.Proofs.Model Go Go.Gx Go.Mx Go.Sx
theorem law(x:El (zaE [uK2]))(hw:Wf (zaE [uK2]) x):∃ N,jr N x.1=some (true,()):=⟨200000,zqe x.1 hw.1⟩
end Go.Proofs.YtlfojfedfhpoiaaGreatDoor
