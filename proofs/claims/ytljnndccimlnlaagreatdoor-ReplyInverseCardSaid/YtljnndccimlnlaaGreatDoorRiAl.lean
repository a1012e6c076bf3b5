/- The chapter's example, run in the machine. -/
import Derived.Test.YtljnndccimlnlaaGreatDoorRiHp
set_option maxRecDepth 100000
namespace Go.Proofs.YtljnndccimlnlaaGreatDoor
open Go Go.Gx Go.Mx Go.Sx
structure zdM(hgl:zp):Prop where
 a7:zp0 true (zgz Tryz.prog (xA Tryz.prog (zf4 tab) 6000) 7 [] hgl)=true
 gl:zv6 11 hgl [0,3,4,7,8,9]=glA
 len:hgl.length=13
 iv:∃ lo hi,hgl[1]?=some (.lay [.iv lo hi])
 e1:hgl[5]?=some (.lay [.opq])
 e2:hgl[6]?=some (.lay [.opq])
theorem alA:zdM hgA:=⟨by kernel_rfl,by kernel_rfl,rfl,⟨_,_,rfl⟩,rfl,rfl⟩
theorem alB:zdM hgB:=⟨by kernel_rfl,by kernel_rfl,rfl,⟨_,_,rfl⟩,rfl,rfl⟩
def Pi(W0:World):Prop:=∃ hgl Gg,Laid Tryz.prog hgl Gg W0.heap.size W0/\zdM hgl
end Go.Proofs.YtljnndccimlnlaaGreatDoor
