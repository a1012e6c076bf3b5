/- The program's Parse finds each form. -/
import Derived.Test.YtljnndccimlnlaaGreatDoorRv
set_option linter.unusedVariables false
set_option linter.unusedSimpArgs false
set_option linter.unusedSectionVars false
set_option maxRecDepth 100000
namespace Go.Proofs.Model
open Go Go.Gx Go.Mx Go.Sx
def wS (s:Int):List UInt8:=if s=0 then [79,75] else if s=1 then [78,79] else [66,65,68]
section
variable {b:List UInt8} (hb:b.length <= 100000)
include hb
end
end Go.Proofs.Model
