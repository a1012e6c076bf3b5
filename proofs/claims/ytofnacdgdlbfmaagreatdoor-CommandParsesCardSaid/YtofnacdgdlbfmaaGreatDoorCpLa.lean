/- CommandParses, the plain law: Parse returns the command of the reference. -/
import Derived.Test.YtofnacdgdlbfmaaGreatDoorCpFa
import Derived.Test.YtofnacdgdlbfmaaGreatDoorB7
set_option linter.unusedVariables false
set_option maxRecDepth 100000
namespace Go.Proofs.YtofnacdgdlbfmaaGreatDoor
open Go.Proofs.Model Go Go.Gx Go.Mx Go.Sx
theorem ztp (b : List UInt8) : z7 3000 b = some (true, ()) := by
 unfold z7
 by_cases h : (2000 : Int) < (((List.length b) : Nat) : Int)
 ·rw [decide_eq_true h]; rfl
 ·rw [decide_eq_false h, cond_false]
  have hb : b.length <= 2000 := by omega
  rw [zlx b hb, zl2 b hb]
  simp only [Option.bind_some, beq_self_eq_true, cond_true, zmd _ (zm2 b hb)]
theorem law (x : El (zcq [.sl .u8])) (hw : Wf (zcq [.sl .u8]) x) : ∃ N, z7 N x.1 = some (true, ()) := ⟨3000, ztp x.1⟩
end Go.Proofs.YtofnacdgdlbfmaaGreatDoor
