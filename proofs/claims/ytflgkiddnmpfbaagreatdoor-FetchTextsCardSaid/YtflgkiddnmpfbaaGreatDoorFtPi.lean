/- What holds of the package variables at a call of a statement. -/
import Derived.Test.YtflgkiddnmpfbaaGreatDoorFtAl
set_option maxRecDepth 100000
set_option linter.unusedVariables false
namespace Go.Proofs.YtflgkiddnmpfbaaGreatDoor
open Go Go.Gx Go.Mx
theorem pi_of {W : World} (hL : laidMet Tryz.prog Rows.fetchTextsRow.laid W) (hS : W.ShapedOpen Tryz.prog) : Pi W := by
  have hn : Tryz.prog.globals.size ≤ W.heap.size := shaped_size hS (by kernel_rfl)
  obtain ⟨Gg, hG⟩ := laid_of hn hL rfl lays
  exact ⟨hgA, Gg, hG, alA⟩
theorem glob_of {W : World} (h : Pi W) : rGlob.rel [] W [] () := ⟨rfl, W, h, Nat.le_refl _, fun b _ => ⟨by simp, rfl⟩⟩
theorem lo : laidOutB Tryz.prog = true := by kernel_rfl
theorem mr : mapsRowed Tryz.prog = true := by kernel_rfl
theorem full : ((List.range Tryz.prog.types.size).all fun t => match Tryz.prog.underlying t with | some (.slice e) => decide (0 < Tryz.prog.cellsOf e) | _ => true) = true := by kernel_rfl
theorem own : ownKnob Tryz.prog.godebug = none := by kernel_rfl
end Go.Proofs.YtflgkiddnmpfbaaGreatDoor
