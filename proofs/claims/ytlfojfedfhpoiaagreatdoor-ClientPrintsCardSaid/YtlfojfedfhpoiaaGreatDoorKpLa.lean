/- ClientPrints, the plain law: Print and Literals return what the reference returns. -/
import Derived.Test.YtlfojfedfhpoiaaGreatDoorKpFa
import Derived.Test.YtlfojfedfhpoiaaGreatDoorB6
set_option linter.unusedVariables false
set_option maxRecDepth 100000
namespace Go.Proofs.YtlfojfedfhpoiaaGreatDoor
open Go.Proofs.Model Go Go.Gx Go.Mx Go.Sx
theorem law(x:El (xg [uK2]))(hw:Wf (xg [uK2]) x):∃ N,zX N x.1=some (true,()):=⟨200000,zlk x.1 hw.1⟩
end Go.Proofs.YtlfojfedfhpoiaaGreatDoor
