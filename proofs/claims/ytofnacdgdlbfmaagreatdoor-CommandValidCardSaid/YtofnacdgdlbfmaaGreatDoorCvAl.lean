/- The chapter's example, run in the machine. -/
import Derived.Test.YtofnacdgdlbfmaaGreatDoorCvHp
set_option maxRecDepth 100000
namespace Go.Proofs.YtofnacdgdlbfmaaGreatDoor
open Go Go.Gx Go.Mx Go.Sx
structure znH (hgl : zi) : Prop where
 a6 : zoY true (zeY Tryz.prog (ja Tryz.prog (zmz tab) 6000) 6 [] hgl) = true
 gl : zra 11 hgl [0, 7, 8, 9] = glA
 len : hgl.length = 13
 iv : ∃ lo hi, hgl[1]? = some (.lay [.iv lo hi])
 e1 : hgl[3]? = some (.lay [.opq])
 e2 : hgl[4]? = some (.lay [.opq])
theorem alA : znH hgA := ⟨by kernel_rfl, by kernel_rfl, rfl, ⟨_, _, rfl⟩, rfl, rfl⟩
theorem alB : znH hgB := ⟨by kernel_rfl, by kernel_rfl, rfl, ⟨_, _, rfl⟩, rfl, rfl⟩
def Pi (W0 : World) : Prop := ∃ hgl Gg, Laid Tryz.prog hgl Gg W0.heap.size W0 /\ znH hgl
end Go.Proofs.YtofnacdgdlbfmaaGreatDoor
