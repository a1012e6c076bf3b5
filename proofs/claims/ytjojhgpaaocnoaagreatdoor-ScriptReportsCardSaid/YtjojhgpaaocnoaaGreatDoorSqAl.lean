/- The chapter's example, run in the machine. -/
import Derived.Test.YtjojhgpaaocnoaaGreatDoorSqEa
import Derived.Test.YtjojhgpaaocnoaaGreatDoorSqEb
set_option maxRecDepth 100000
namespace Go.Proofs.YtjojhgpaaocnoaaGreatDoor
open Go Go.Gx Go.Mx Go.Sx
structure zi8(hgl:za):Prop where
 a4:zkz true (zcb Tryz.prog (qQ Tryz.prog (zgd tab) 6000) 4 [] hgl)=true
 gl:zqJ 11 hgl [1,4,5,8]=glA
 len:hgl.length=13
 iv:∃ lo hi,hgl[0]?=some (.lay [.iv lo hi])
 e1:hgl[6]?=some (.lay [.opq])
 e2:hgl[7]?=some (.lay [.opq])
theorem alA:zi8 hgA:=⟨a4A,by kernel_rfl,rfl,⟨_,_,rfl⟩,rfl,rfl⟩
theorem alB:zi8 hgB:=⟨a4B,by kernel_rfl,rfl,⟨_,_,rfl⟩,rfl,rfl⟩
def Pi(W0:World):Prop:=∃ hgl Gg,Laid Tryz.prog hgl Gg W0.heap.size W0/\zi8 hgl
end Go.Proofs.YtjojhgpaaocnoaaGreatDoor
