/- The chapter's example, run in the machine. -/
import Derived.Test.YtofnacdgdlbfmaaGreatDoorCpHp
set_option maxRecDepth 100000
namespace Go.Proofs.YtofnacdgdlbfmaaGreatDoor
open Go Go.Gx Go.Mx Go.Sx
structure zpc (hgl : zj) : Prop where
 a6 : zpB true (zga Tryz.prog (jw Tryz.prog (znK tab) 6000) 6 [] hgl) = true
 gl : zss 11 hgl [0, 7, 8, 9] = glA
 len : hgl.length = 13
 iv : ∃ lo hi, hgl[1]? = some (.lay [.iv lo hi])
 e1 : hgl[3]? = some (.lay [.opq])
 e2 : hgl[4]? = some (.lay [.opq])
theorem alA : zpc hgA := ⟨by kernel_rfl, by kernel_rfl, rfl, ⟨_, _, rfl⟩, rfl, rfl⟩
theorem alB : zpc hgB := ⟨by kernel_rfl, by kernel_rfl, rfl, ⟨_, _, rfl⟩, rfl, rfl⟩
def Pi (W0 : World) : Prop := ∃ hgl Gg, Laid Tryz.prog hgl Gg W0.heap.size W0 /\ zpc hgl
end Go.Proofs.YtofnacdgdlbfmaaGreatDoor
