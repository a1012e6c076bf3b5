/- The chapter's example, run in the machine. -/
import Derived.Test.YtifkhebojenhnabGreatDoorSlHp
set_option maxRecDepth 100000
namespace Go.Proofs.YtifkhebojenhnabGreatDoor
open Go Go.Gx Go.Mx Go.Sx
structure zjt(hgl:zb):Prop where
 a8:kM true (wx Tryz.prog (zC Tryz.prog (ziV tab) 6000) 8 [] hgl)=true
 gl:zlO 12 hgl []=glA
 len:hgl.length=14
 eq:hgl=hgA\/hgl=hgB
theorem alA:zjt hgA:=⟨by kernel_rfl,by kernel_rfl,rfl,.inl rfl⟩
theorem alB:zjt hgB:=⟨by kernel_rfl,by kernel_rfl,rfl,.inr rfl⟩
def Pi(W0:World):Prop:=∃ hgl Gg,Laid Tryz.prog hgl Gg W0.heap.size W0/\zjt hgl
end Go.Proofs.YtifkhebojenhnabGreatDoor
