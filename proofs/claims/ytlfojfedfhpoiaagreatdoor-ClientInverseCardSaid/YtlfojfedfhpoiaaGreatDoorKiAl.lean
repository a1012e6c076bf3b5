/- The chapter's example, run in the machine. -/
import Derived.Test.YtlfojfedfhpoiaaGreatDoorKiHp
set_option maxRecDepth 100000
namespace Go.Proofs.YtlfojfedfhpoiaaGreatDoor
open Go Go.Gx Go.Mx Go.Sx
structure zi3(hgl:zg):Prop where
 a9:zuE true (zfQ Tryz.prog (jO Tryz.prog (zkV tab) 6000) 9 [] hgl)=true
 gl:zAf 11 hgl [0,3,4,5]=glA
 len:hgl.length=13
 iv:∃ lo hi,hgl[2]?=some (.lay [.iv lo hi])
 e1:hgl[6]?=some (.lay [.opq])
 e2:hgl[7]?=some (.lay [.opq])
theorem alA:zi3 hgA:=⟨by kernel_rfl,by kernel_rfl,rfl,⟨_,_,rfl⟩,rfl,rfl⟩
theorem alB:zi3 hgB:=⟨by kernel_rfl,by kernel_rfl,rfl,⟨_,_,rfl⟩,rfl,rfl⟩
def Pi(W0:World):Prop:=∃ hgl Gg,Laid Tryz.prog hgl Gg W0.heap.size W0/\zi3 hgl
end Go.Proofs.YtlfojfedfhpoiaaGreatDoor
