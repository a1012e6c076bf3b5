/- The functions of the law: their models, and that the program does what they say. -/
import Derived.Test.YtfkgbpkgggaphaaGreatDoorEnHp
set_option linter.unusedVariables false
set_option linter.unusedSimpArgs false
set_option maxRecDepth 100000
namespace Go.Proofs.YtfkgbpkgggaphaaGreatDoor
open Go Go.Gx Go.Mx Go.Sx
def hkA : Hooks := addHook (addHook (mext tab) 5 yesG) 8 (closedG cl8_a 9 cl8_v cl8_b)
theorem hkok : HkOK Tryz.prog hkA [8, 5] := hkok_add (hkok_add (hkok_ext (by kernel_rfl)) 5 yesG) 8 _
def cl8_s : SV := .ptr 0 0 5
def cl8_t : List SB := [.cells [.ptr 1 0 1, .ptr 2 0 7, .ptr 3 0 1, .a (.int .i64 (1 : Int)), .map 4] 0, .cells [.lsl 1] 0, .cells [.a (.int .u32 (1 : Int)), .a (.int .u64 (0 : Int)), .a (.int .u32 (1 : Int)), .a (.int .u32 (0 : Int)), .a (.int .u32 (0 : Int)), .a (.int .i32 (0 : Int)), .a (.int .u32 (0 : Int))] 0, .cells [.a .nils] 0, .map [] [] 0]
theorem cl8_c : SndF Tryz.prog glA hkA 8 (closedF cl8_a cl8_s cl8_t) := closed_sound (n := 9) (vM := cl8_v) (bs := cl8_b) (idx := [(12, 0), (0, 0), (5, 0), (10, 0), (11, 0)]) rfl (by kernel_rfl)
@[reducible] def uS1 : U := (.pair .str (.pair (.int .i64) (.pair .str (.pair (.sl (.pair (.int .u32) (.int .u32))) (.pair (.int .i64) (.pair (.int .i64) (.pair .bool (.pair .u8 (.sl .u8)))))))))
-- cubbyhole/cubbyholeref07.Few
def F_ref07_Few (N : Nat) (p0 : (El uS1)) : Option (Bool × Unit) :=
  (cond (decide ((((List.length p0.1) : Nat) : Int) ≤ (100 : Int))) (cond (decide ((((List.length p0.2.2.1) : Nat) : Int) ≤ (300 : Int))) (cond (decide ((((List.length p0.2.2.2.1) : Nat) : Int) ≤ (60 : Int))) (some ((decide ((((List.length p0.2.2.2.2.2.2.2.2) : Nat) : Int) ≤ (500 : Int))), ())) (some (false, ()))) (some (false, ()))) (some (false, ())))
def F_ref07_Few_ct (N : Nat) : List (FuncId × CF) := [(5, conF [] [.bool] fun _ => some (true, ())), (8, closedF cl8_a cl8_s cl8_t)]
theorem F_ref07_Few_ok (N : Nat) : CtOK Tryz.prog glA (tabC (F_ref07_Few_ct N)) hkA := ctok hkok rfl ⟨yes_sound rfl, cl8_c, trivial⟩
def F_ref07_Few_pl (N : Nat) : Pl := .auto
theorem F_ref07_Few_s (N : Nat) (x : El (tupU [uS1])) : scall Tryz.prog glA (tabC (F_ref07_Few_ct N)) 1500 (F_ref07_Few_pl N) 4 (argsOf [uS1] x) [] (retOf [.bool]) = F_ref07_Few N x.1 := by kernel_rfl
theorem F_ref07_Few_k (N : Nat) : ∀ fn b, Tryz.prog.funcs[4]? = some fn → fn.body = some b → PlOK Tryz.prog glA hkA (F_ref07_Few_pl N) b :=
  plok_fn Tryz.func4 (show (match Tryz.f4.body with | some b => loopsOf Tryz.prog (F_ref07_Few_pl N) b | none => none) = some [] by kernel_rfl) trivial
theorem F_ref07_Few_c (N : Nat) : SndF Tryz.prog glA hkA 4 (conF [uS1] [.bool] fun x => F_ref07_Few N x.1) := con_sound (F_ref07_Few_ok N) (F_ref07_Few_k N) (F_ref07_Few_s N)
-- cubbyhole/cubbyholelaw21.ExecNil
def F_law21_ExecNil (N : Nat) (p0 : (El uS1)) (p1 : Int) : Option (Bool × Unit) :=
  (Option.bind (F_ref07_Few N p0) fun y1 => (cond (!y1.1) (Option.bind (some (true, ())) fun y2 => (some (y2.1, ()))) (cond (decide (p1 < (0 : Int))) (Option.bind (some (true, ())) fun y3 => (cond y3.1 (some ((true == (decide (p1 < (0 : Int)))), ())) (some (false, ())))) (Option.bind (some (true, ())) fun y4 => (cond y4.1 (some ((false == (decide (p1 < (0 : Int)))), ())) (some (false, ())))))))
def F_law21_ExecNil_ct (N : Nat) : List (FuncId × CF) := [(4, conF [uS1] [.bool] fun x => F_ref07_Few N x.1), (5, conF [] [.bool] fun _ => some (true, ())), (8, closedF cl8_a cl8_s cl8_t)]
theorem F_law21_ExecNil_ok (N : Nat) : CtOK Tryz.prog glA (tabC (F_law21_ExecNil_ct N)) hkA := ctok hkok rfl ⟨F_ref07_Few_c N, yes_sound rfl, cl8_c, trivial⟩
def F_law21_ExecNil_pl (N : Nat) : Pl := .auto
theorem F_law21_ExecNil_s (N : Nat) (x : El (tupU [uS1, (.int .i64)])) : scall Tryz.prog glA (tabC (F_law21_ExecNil_ct N)) 1500 (F_law21_ExecNil_pl N) 3 (argsOf [uS1, (.int .i64)] x) [] (retOf [.bool]) = F_law21_ExecNil N x.1 x.2.1 := by kernel_rfl
theorem F_law21_ExecNil_k (N : Nat) : ∀ fn b, Tryz.prog.funcs[3]? = some fn → fn.body = some b → PlOK Tryz.prog glA hkA (F_law21_ExecNil_pl N) b :=
  plok_fn Tryz.func3 (show (match Tryz.f3.body with | some b => loopsOf Tryz.prog (F_law21_ExecNil_pl N) b | none => none) = some [] by kernel_rfl) trivial
theorem F_law21_ExecNil_c (N : Nat) : SndF Tryz.prog glA hkA 3 (conF [uS1, (.int .i64)] [.bool] fun x => F_law21_ExecNil N x.1 x.2.1) := con_sound (F_law21_ExecNil_ok N) (F_law21_ExecNil_k N) (F_law21_ExecNil_s N)
end Go.Proofs.YtfkgbpkgggaphaaGreatDoor
