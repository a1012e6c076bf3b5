/- ExecNil, the plain law. -/
import Derived.Test.YtfkgbpkgggaphaaGreatDoorEnFa
import Derived.Test.YtfkgbpkgggaphaaGreatDoorBase5
set_option linter.unusedVariables false
set_option linter.unusedSimpArgs false
set_option maxRecDepth 100000
namespace Go.Proofs.YtfkgbpkgggaphaaGreatDoor
open Go Go.Gx Go.Mx Go.Sx
theorem cond_case {α : Type} {b : Bool} {x y z : α} (h1 : b = true → x = z) (h2 : b = false → y = z) : cond b x y = z := by cases b <;> first | exact h1 rfl | exact h2 rfl
theorem few (p0 : El uS1) : ∃ b, F_ref07_Few 0 p0 = some (b, ()) := by
  unfold F_ref07_Few
  cases decide ((((List.length p0.1) : Nat) : Int) ≤ (100 : Int)) <;> cases decide ((((List.length p0.2.2.1) : Nat) : Int) ≤ (300 : Int)) <;> cases decide ((((List.length p0.2.2.2.1) : Nat) : Int) ≤ (60 : Int)) <;> exact ⟨_, rfl⟩
theorem law (x : El (tupU [uS1, (.int .i64)])) (hw : Wf (tupU [uS1, (.int .i64)]) x) : ∃ N, F_law21_ExecNil N x.1 x.2.1 = some (true, ()) := by
  refine ⟨0, ?_⟩
  obtain ⟨f, hf⟩ := few x.1
  unfold F_law21_ExecNil
  rw [hf]
  simp only [Option.bind_some]
  cases f <;> cases h : decide (x.2.1 < (0 : Int)) <;> rfl
end Go.Proofs.YtfkgbpkgggaphaaGreatDoor
