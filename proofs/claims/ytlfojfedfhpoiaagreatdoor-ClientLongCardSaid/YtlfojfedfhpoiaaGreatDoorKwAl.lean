/- The chapter's example, run in the machine. -/
import Derived.Test.YtlfojfedfhpoiaaGreatDoorKwHp
set_option maxRecDepth 100000
namespace Go.Proofs.YtlfojfedfhpoiaaGreatDoor
open Go Go.Gx Go.Mx Go.Sx
structure zkW(hgl:zb):Prop where
 a9:zpW true (ze9 Tryz.prog (ju Tryz.prog (zke tab) 6000) 9 [] hgl)=true
 gl:zr9 11 hgl [0,3,4,5]=glA
 len:hgl.length=13
 iv:∃ lo hi,hgl[2]?=some (.lay [.iv lo hi])
 e1:hgl[6]?=some (.lay [.opq])
 e2:hgl[7]?=some (.lay [.opq])
theorem alA:zkW hgA:=⟨by kernel_rfl,by kernel_rfl,rfl,⟨_,_,rfl⟩,rfl,rfl⟩
theorem alB:zkW hgB:=⟨by kernel_rfl,by kernel_rfl,rfl,⟨_,_,rfl⟩,rfl,rfl⟩
def Pi(W0:World):Prop:=∃ hgl Gg,Laid Tryz.prog hgl Gg W0.heap.size W0/\zkW hgl
end Go.Proofs.YtlfojfedfhpoiaaGreatDoor
