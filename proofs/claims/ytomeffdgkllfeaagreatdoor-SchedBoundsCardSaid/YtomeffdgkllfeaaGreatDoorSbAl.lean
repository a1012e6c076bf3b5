/- The chapter's example, run in the machine. -/
import Derived.Test.YtomeffdgkllfeaaGreatDoorSbEa
import Derived.Test.YtomeffdgkllfeaaGreatDoorSbEb
import Derived.Test.YtomeffdgkllfeaaGreatDoorSbKa
import Derived.Test.YtomeffdgkllfeaaGreatDoorSbKb
import Derived.Test.YtomeffdgkllfeaaGreatDoorSbNw
import Derived.Test.YtomeffdgkllfeaaGreatDoorSbNx
set_option maxRecDepth 100000
namespace Go.Proofs.YtomeffdgkllfeaaGreatDoor
open Go Go.Gx Go.Mx Go.Sx
structure ziW(hgl:zb):Prop where
 a5:zkk true (wO Tryz.prog (ql Tryz.prog hkF 6000) 5 [] hgl)=true
 zrm:zpS (wO Tryz.prog (ql Tryz.prog (zex tab) 6000) 140 zd8 hgl)=true
 gl:zp4 11 hgl [3,4,6,7]=glA
 len:hgl.length=13
 iv:∃ lo hi,hgl[0]?=some (.lay [.iv lo hi])
 e1:hgl[1]?=some (.lay [.opq])
 e2:hgl[2]?=some (.lay [.opq])
 nw:∀ k,zfL (fun a=>wO Tryz.prog (ql Tryz.prog (zex tab) 6000) 26 a hgl) k=true
theorem alA:ziW hgA:=⟨a5A,zqf,by kernel_rfl,rfl,⟨_,_,rfl⟩,rfl,rfl,nwA⟩
theorem alB:ziW hgB:=⟨a5B,zqg,by kernel_rfl,rfl,⟨_,_,rfl⟩,rfl,rfl,nwB⟩
theorem zrk{hgl:zb}{Gg:Gh}(h:ziW hgl):HOK Tryz.prog hgl Gg hkF:=zac (zel tab xfn) fun B W0 hL args h0 r hr=>by
 unfold zoK at hr
 split at hr
 ·rename_i he
  cases hr
  rw[AV.ki _ _ he]
  have hk:=h.zrm
  unfold zpS at hk
  split at hk
  ·rename_i v h' hc
   rw[AV.beq_eq _ _ hk] at hc
   exact zcB hmo hng (zel tab xfn) hL hc rfl rfl
  ·cases hk
 ·cases hr
def Pi(W0:World):Prop:=∃ hgl Gg,Laid Tryz.prog hgl Gg W0.heap.size W0/\ziW hgl
end Go.Proofs.YtomeffdgkllfeaaGreatDoor
