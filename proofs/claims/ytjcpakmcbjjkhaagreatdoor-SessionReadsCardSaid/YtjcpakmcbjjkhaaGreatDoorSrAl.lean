/- The chapter's example, run in the machine. -/
import Derived.Test.YtjcpakmcbjjkhaaGreatDoorSrHp
set_option maxRecDepth 100000
namespace Go.Proofs.YtjcpakmcbjjkhaaGreatDoor
open Go Go.Gx Go.Mx Go.Sx
structure zpb (hgl : zj) : Prop where
 a4 : zqK true (zfZ Tryz.prog (jx Tryz.prog (znV tab) 6000) 4 [] hgl) = true
 gl : zst 12 hgl [1, 6, 9, 10] = glA
 len : hgl.length = 14
 iv : ∃ lo hi, hgl[2]? = some (.lay [.iv lo hi])
 e1 : hgl[4]? = some (.lay [.opq])
 e2 : hgl[5]? = some (.lay [.opq])
theorem alA : zpb hgA := ⟨by kernel_rfl, by kernel_rfl, rfl, ⟨_, _, rfl⟩, rfl, rfl⟩
theorem alB : zpb hgB := ⟨by kernel_rfl, by kernel_rfl, rfl, ⟨_, _, rfl⟩, rfl, rfl⟩
def Pi (W0 : World) : Prop := ∃ hgl Gg, Laid Tryz.prog hgl Gg W0.heap.size W0 /\ zpb hgl
end Go.Proofs.YtjcpakmcbjjkhaaGreatDoor
