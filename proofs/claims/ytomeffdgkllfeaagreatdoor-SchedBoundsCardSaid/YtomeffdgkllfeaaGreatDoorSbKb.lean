/- Calls of the example, run in the machine. -/
import Derived.Test.YtomeffdgkllfeaaGreatDoorSbHp
set_option maxRecDepth 100000
namespace Go.Proofs.YtomeffdgkllfeaaGreatDoor
open Go Go.Gx Go.Mx Go.Sx
theorem zqg:zpS (wO Tryz.prog (ql Tryz.prog (zex tab) 6000) 140 zd8 hgB)=true:=by kernel_rfl
end Go.Proofs.YtomeffdgkllfeaaGreatDoor
