/- ReplyOnce, the plain law: what Parse answers prints to the bytes it read, and is valid. -/
import Derived.Test.YtljnndccimlnlaaGreatDoorRoFa
import Derived.Test.YtljnndccimlnlaaGreatDoorSa
set_option linter.unusedVariables false
set_option maxRecDepth 100000
namespace Go.Proofs.YtljnndccimlnlaaGreatDoor
open Go.Proofs.Model Go Go.Gx Go.Mx Go.Sx
theorem law (x:El (zaV [.sl .u8])) (hw:Wf (zaV [.sl .u8]) x):∃ N,qG N x.1=some (true,()):=⟨200000,zoH x.1⟩
end Go.Proofs.YtljnndccimlnlaaGreatDoor
