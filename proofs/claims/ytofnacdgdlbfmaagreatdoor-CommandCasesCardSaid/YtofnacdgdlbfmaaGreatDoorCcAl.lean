/- The chapter's example, run in the machine. -/
import Derived.Test.YtofnacdgdlbfmaaGreatDoorCcHp
set_option maxRecDepth 100000
namespace Go.Proofs.YtofnacdgdlbfmaaGreatDoor
open Go Go.Gx Go.Mx Go.Sx
structure zpl (hgl : zl) : Prop where
 a6 : zqj true (zgi Tryz.prog (jD Tryz.prog (zod tab) 6000) 6 [] hgl) = true
 gl : ztb 11 hgl [0, 7, 8, 9] = glA
 len : hgl.length = 13
 iv : ∃ lo hi, hgl[1]? = some (.lay [.iv lo hi])
 e1 : hgl[3]? = some (.lay [.opq])
 e2 : hgl[4]? = some (.lay [.opq])
theorem alA : zpl hgA := ⟨by kernel_rfl, by kernel_rfl, rfl, ⟨_, _, rfl⟩, rfl, rfl⟩
theorem alB : zpl hgB := ⟨by kernel_rfl, by kernel_rfl, rfl, ⟨_, _, rfl⟩, rfl, rfl⟩
def Pi (W0 : World) : Prop := ∃ hgl Gg, Laid Tryz.prog hgl Gg W0.heap.size W0 /\ zpl hgl
end Go.Proofs.YtofnacdgdlbfmaaGreatDoor
