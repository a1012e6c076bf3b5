/- The chapter's example, run in the machine. -/
import Derived.Test.YtnoodkgfjdajgaaGreatDoorCnHp
set_option maxRecDepth 100000
namespace Go.Proofs.YtnoodkgfjdajgaaGreatDoor
open Go Go.Gx Go.Mx Go.Sx
structure AlOK (hgl : Heap) : Prop where
  a12 : retIs true (mbody Tryz.prog (mrun Tryz.prog (mext tab) 6000) 12 [] hgl) = true
  gl : glOf 11 hgl [0] = glA
theorem alA : AlOK hgA := ⟨by kernel_rfl, by kernel_rfl⟩
theorem alB : AlOK hgB := ⟨by kernel_rfl, by kernel_rfl⟩
def Pi (W0 : World) : Prop := ∃ hgl Gg, Laid Tryz.prog hgl Gg W0.heap.size W0 ∧ AlOK hgl
def rGlob : Rp Unit := rGlobOf Pi
end Go.Proofs.YtnoodkgfjdajgaaGreatDoor
