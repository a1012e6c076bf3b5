/- ReplyReads, the plain law: All answers as the reference's. -/
import Derived.Test.YtljnndccimlnlaaGreatDoorRrFa
import Derived.Test.YtljnndccimlnlaaGreatDoorSe
set_option linter.unusedVariables false
set_option maxRecDepth 100000
namespace Go.Proofs.YtljnndccimlnlaaGreatDoor
open Go.Proofs.Model Go Go.Gx Go.Mx Go.Sx
theorem law(x:El (zbQ [.sl .u8]))(hw:Wf (zbQ [.sl .u8]) x):∃ N,wN N x.1=some (true,()):=⟨200000,zpZ x.1⟩
end Go.Proofs.YtljnndccimlnlaaGreatDoor
