/- The chapter's example, run in the machine. -/
import Derived.Test.YtnbfgnfpdlelbaaGreatDoorSnHp
set_option maxRecDepth 100000
namespace Go.Proofs.YtnbfgnfpdlelbaaGreatDoor
open Go Go.Gx Go.Mx Go.Sx
structure zhd (hgl : za) : Prop where
 a4 : zh5 true (xZ Tryz.prog (qk Tryz.prog (zeU tab) 6000) 4 [] hgl) = true
 gl : zjE 12 hgl [] = glA
 len : hgl.length = 14
 c12 : zbt 14 zcD zcH (xZ Tryz.prog (qk Tryz.prog (zeU tab) 6000) 12 za0 hgl) = true
 c14 : zbt 14 zd6 zdT (xZ Tryz.prog (qk Tryz.prog (zeU tab) 6000) 14 zcj hgl) = true
theorem alA : zhd hgA := ⟨by kernel_rfl, by kernel_rfl, rfl, by kernel_rfl, by kernel_rfl⟩
theorem alB : zhd hgB := ⟨by kernel_rfl, by kernel_rfl, rfl, by kernel_rfl, by kernel_rfl⟩
def Pi (W0 : World) : Prop := ∃ hgl Gg, Laid Tryz.prog hgl Gg W0.heap.size W0 /\ zhd hgl
end Go.Proofs.YtnbfgnfpdlelbaaGreatDoor
