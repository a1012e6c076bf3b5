/- ReplyParses, the plain law: Parse answers as the reference's. -/
import Derived.Test.YtljnndccimlnlaaGreatDoorRqFa
import Derived.Test.YtljnndccimlnlaaGreatDoorSe
set_option linter.unusedVariables false
set_option maxRecDepth 100000
namespace Go.Proofs.YtljnndccimlnlaaGreatDoor
open Go.Proofs.Model Go Go.Gx Go.Mx Go.Sx
theorem law(x:El (zbQ [.sl .u8,.int .i64]))(hw:Wf (zbQ [.sl .u8,.int .i64]) x):∃ N,wu N x.1 x.2.1=some (true,()):=⟨200000,zoc x.1 x.2.1⟩
end Go.Proofs.YtljnndccimlnlaaGreatDoor
