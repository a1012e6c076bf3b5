/- The chapter's example, run in the machine. -/
import Derived.Test.YtnbfgnfpdlelbabGreatDoorTnHp
set_option maxRecDepth 100000
namespace Go.Proofs.YtnbfgnfpdlelbabGreatDoor
open Go Go.Gx Go.Mx Go.Sx
structure zht (hgl : za) : Prop where
 a8 : zhW true (zav Tryz.prog (qv Tryz.prog (zgg tab) 6000) 8 [] hgl) = true
 gl : zjn 11 hgl [] = glA
 len : hgl.length = 13
 c4 : zda 13 zgw zgn (zav Tryz.prog (qv Tryz.prog (zgg tab) 6000) 4 zfe hgl) = true
theorem alA : zht hgA := ⟨by kernel_rfl, by kernel_rfl, rfl, by kernel_rfl⟩
theorem alB : zht hgB := ⟨by kernel_rfl, by kernel_rfl, rfl, by kernel_rfl⟩
def Pi (W0 : World) : Prop := ∃ hgl Gg, Laid Tryz.prog hgl Gg W0.heap.size W0 /\ zht hgl
end Go.Proofs.YtnbfgnfpdlelbabGreatDoor
