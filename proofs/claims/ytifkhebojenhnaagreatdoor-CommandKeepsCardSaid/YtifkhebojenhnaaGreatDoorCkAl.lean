/- The chapter's example, run in the machine. -/
import Derived.Test.YtifkhebojenhnaaGreatDoorCkHp
set_option maxRecDepth 100000
namespace Go.Proofs.YtifkhebojenhnaaGreatDoor
open Go Go.Gx Go.Mx Go.Sx
structure zqC(hgl:zf):Prop where
 a4:zsi true (zei Tryz.prog (qF Tryz.prog (zo8 tab) 6000) 4 [] hgl)=true
 gl:zuU 11 hgl [0,7,8,9]=glA
 len:hgl.length=13
 iv:∃ lo hi,hgl[1]?=some (.lay [.iv lo hi])
 e1:hgl[3]?=some (.lay [.opq])
 e2:hgl[4]?=some (.lay [.opq])
theorem alA:zqC hgA:=⟨by kernel_rfl,by kernel_rfl,rfl,⟨_,_,rfl⟩,rfl,rfl⟩
theorem alB:zqC hgB:=⟨by kernel_rfl,by kernel_rfl,rfl,⟨_,_,rfl⟩,rfl,rfl⟩
def Pi(W0:World):Prop:=∃ hgl Gg,Laid Tryz.prog hgl Gg W0.heap.size W0/\zqC hgl
end Go.Proofs.YtifkhebojenhnaaGreatDoor
