/- The chapter's example, run in the machine. -/
import Derived.Test.YtfkgbpkgggaphaaGreatDoorEnHp
set_option maxRecDepth 100000
namespace Go.Proofs.YtfkgbpkgggaphaaGreatDoor
open Go Go.Gx Go.Mx Go.Sx
structure AlOK (hgl : Heap) : Prop where
  a5 : retIs true (mbody Tryz.prog (mrun Tryz.prog (mext tab) 6000) 5 [] hgl) = true
  gl : glOf 7 hgl [] = glA
  len : hgl.length = 9
  c8 : retHeap 9 cl8_v cl8_b (mbody Tryz.prog (mrun Tryz.prog (mext tab) 6000) 8 cl8_a hgl) = true
theorem alA : AlOK hgA := ⟨by kernel_rfl, by kernel_rfl, rfl, by kernel_rfl⟩
theorem alB : AlOK hgB := ⟨by kernel_rfl, by kernel_rfl, rfl, by kernel_rfl⟩
def Pi (W0 : World) : Prop := ∃ hgl Gg, Laid Tryz.prog hgl Gg W0.heap.size W0 ∧ AlOK hgl
def rGlob : Rp Unit := rGlobOf Pi
end Go.Proofs.YtfkgbpkgggaphaaGreatDoor
