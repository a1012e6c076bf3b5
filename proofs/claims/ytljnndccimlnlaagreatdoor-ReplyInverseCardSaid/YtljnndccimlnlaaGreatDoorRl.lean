/- The reference's forms. -/
import Derived.Test.YtljnndccimlnlaaGreatDoorRk
set_option linter.unusedVariables false
set_option linter.unusedSimpArgs false
set_option maxRecDepth 100000
namespace Go.Proofs.Model
open Go Go.Gx Go.Mx Go.Sx
end Go.Proofs.Model
