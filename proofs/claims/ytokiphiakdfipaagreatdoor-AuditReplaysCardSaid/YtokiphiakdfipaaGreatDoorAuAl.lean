/- The chapter's example, run in the machine. -/
import Derived.Test.YtokiphiakdfipaaGreatDoorAuHp
set_option maxRecDepth 100000
namespace Go.Proofs.YtokiphiakdfipaaGreatDoor
open Go Go.Gx Go.Mx Go.Sx
structure zqu(hgl:zm):Prop where
 a4:ztY true (zhA Tryz.prog (wz Tryz.prog (zn2 tab) 6000) 4 [] hgl)=true
 gl:zwN 11 hgl [0,3,4,5,8,9]=glA
 len:hgl.length=13
 iv:∃ lo hi,hgl[1]?=some (.lay [.iv lo hi])
 e1:hgl[6]?=some (.lay [.opq])
 e2:hgl[7]?=some (.lay [.opq])
theorem alA:zqu hgA:=⟨by kernel_rfl,by kernel_rfl,rfl,⟨_,_,rfl⟩,rfl,rfl⟩
theorem alB:zqu hgB:=⟨by kernel_rfl,by kernel_rfl,rfl,⟨_,_,rfl⟩,rfl,rfl⟩
def Pi(W0:World):Prop:=∃ hgl Gg,Laid Tryz.prog hgl Gg W0.heap.size W0/\zqu hgl
end Go.Proofs.YtokiphiakdfipaaGreatDoor
