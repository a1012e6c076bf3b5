/- TaskNil, the plain law. -/
import Derived.Test.YtnbfgnfpdlelbabGreatDoorTnFa
import Derived.Test.YtnbfgnfpdlelbabGreatDoorB5
set_option linter.unusedVariables false
set_option linter.unusedSimpArgs false
set_option maxRecDepth 100000
namespace Go.Proofs.YtnbfgnfpdlelbabGreatDoor
open Go Go.Gx Go.Mx Go.Sx
theorem ze5 {α : Type} {b : Bool} {x y z : α} (h1 : b = true -> x = z) (h2 : b = false -> y = z) : cond b x y = z := by cases b <;> first | exact h1 rfl | exact h2 rfl
theorem ziI : ∀ (a b : Int) (c : UInt8), -128 <= a -> a <= 127 -> -128 <= b -> b <= 127 -> zC 0 a b c = some (true, ()) := by
 intro a b c h1 h2 h3 h4
 have hc := c.toNat_lt
 have e1 : IntKind.wrap .i64 ((UInt8.toNat c : Nat) : Int) = ((UInt8.toNat c : Nat) : Int) := wri (by omega) (by omega)
 have e2 : IntKind.wrap .i64 a = a := wri (by omega) (by omega)
 have e3 : IntKind.wrap .i64 b = b := wri (by omega) (by omega)
 have e4 : IntKind.wrap .i64 ((4 : Int) + a) = 4 + a := wri (by omega) (by omega)
 unfold zC
 simp only [e1, e2, e3, e4, Option.bind_some]
 clear e1 e2 e3 e4
 repeat' (first | rfl | (refine ze5 ?_ ?_ <;> intro hh))
 all_goals first | rfl | (exfalso; simp_all; done) | (exfalso; simp at *; omega) | (exfalso; simp_all; omega)
theorem law (x : El (zdV [(.int .i8), (.int .i8), .u8])) (hw : Wf (zdV [(.int .i8), (.int .i8), .u8]) x) : ∃ N, zC N x.1 x.2.1 x.2.2.1 = some (true, ()) := by
 obtain ⟨a, b, c, ⟨⟩⟩ := x
 obtain ⟨⟨h1, h2⟩, ⟨h3, h4⟩, _⟩ := hw
 exact ⟨0, ziI a b c h1 h2 h3 h4⟩
end Go.Proofs.YtnbfgnfpdlelbabGreatDoor
