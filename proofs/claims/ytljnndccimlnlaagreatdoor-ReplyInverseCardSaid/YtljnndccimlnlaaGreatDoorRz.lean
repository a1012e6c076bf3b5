/- The reference's FETCH. -/
import Derived.Test.YtljnndccimlnlaaGreatDoorRy
set_option linter.unusedVariables false
set_option linter.unusedSimpArgs false
set_option linter.unusedSectionVars false
set_option maxRecDepth 100000
namespace Go.Proofs.Model
open Go Go.Gx Go.Mx Go.Sx
section
variable {e:List UInt8} (he:e.length<=100000)
include he
end
end Go.Proofs.Model
