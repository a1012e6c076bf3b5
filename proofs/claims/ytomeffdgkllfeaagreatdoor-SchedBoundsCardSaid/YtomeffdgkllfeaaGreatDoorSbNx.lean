/- store.New, run in the machine. -/
import Derived.Test.YtomeffdgkllfeaaGreatDoorSbHp
set_option maxRecDepth 100000
namespace Go.Proofs.YtomeffdgkllfeaaGreatDoor
open Go Go.Gx Go.Mx Go.Sx
theorem nwB(k):zfL (fun a=>wO Tryz.prog (ql Tryz.prog (zex tab) 6000) 26 a hgB) k=true:=by kernel_rfl
end Go.Proofs.YtomeffdgkllfeaaGreatDoor
