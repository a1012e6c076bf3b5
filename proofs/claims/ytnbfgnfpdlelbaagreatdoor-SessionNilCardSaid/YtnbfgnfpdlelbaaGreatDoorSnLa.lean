/- SessionNil, the plain law. -/
import Derived.Test.YtnbfgnfpdlelbaaGreatDoorSnFa
import Derived.Test.YtnbfgnfpdlelbaaGreatDoorB5
set_option linter.unusedVariables false
set_option linter.unusedSimpArgs false
set_option maxRecDepth 100000
namespace Go.Proofs.YtnbfgnfpdlelbaaGreatDoor
open Go Go.Gx Go.Mx Go.Sx
theorem ze0 {α : Type} {b : Bool} {x y z : α} (h1 : b = true -> x = z) (h2 : b = false -> y = z) : cond b x y = z := by cases b <;> first | exact h1 rfl | exact h2 rfl
theorem law (x : El (zdQ [(.sl .u8), (.int .i64)])) (hw : Wf (zdQ [(.sl .u8), (.int .i64)]) x) : ∃ N, zA N x.1 x.2.1 = some (true, ()) := by
 refine ⟨0, ?_⟩
 unfold zA
 simp only [Option.bind_some]
 repeat' (first | rfl | (refine ze0 ?_ ?_ <;> intro hh))
 all_goals first | rfl | (exfalso; simp_all; done) | (exfalso; simp at *; omega) | (exfalso; simp_all; omega)
end Go.Proofs.YtnbfgnfpdlelbaaGreatDoor
