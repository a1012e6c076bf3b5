/- The program's Parse: what it answers. -/
import Derived.Test.YtljnndccimlnlaaGreatDoorRt
set_option linter.unusedVariables false
set_option linter.unusedSimpArgs false
set_option linter.unusedSectionVars false
set_option maxRecDepth 100000
namespace Go.Proofs.Model
open Go Go.Gx Go.Mx Go.Sx
section
variable {b:List UInt8} (hb:b.length<=100000)
include hb
end
end Go.Proofs.Model
