/- The chapter's example, run in the machine. -/
import Derived.Test.YtomeffdgkllfeaaGreatDoorSbHp
set_option maxRecDepth 100000
namespace Go.Proofs.YtomeffdgkllfeaaGreatDoor
open Go Go.Gx Go.Mx Go.Sx
theorem a5A:zkk true (wO Tryz.prog (ql Tryz.prog hkF 6000) 5 [] hgA)=true:=by kernel_rfl
end Go.Proofs.YtomeffdgkllfeaaGreatDoor
