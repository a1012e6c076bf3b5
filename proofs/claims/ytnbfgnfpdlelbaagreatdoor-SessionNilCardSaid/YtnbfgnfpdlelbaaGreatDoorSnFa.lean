/- The functions of the law: their models, and that the program does what they say. -/
import Derived.Test.YtnbfgnfpdlelbaaGreatDoorSnHp
set_option linter.unusedVariables false
set_option linter.unusedSimpArgs false
set_option maxRecDepth 100000
namespace Go.Proofs.YtnbfgnfpdlelbaaGreatDoor
open Go Go.Gx Go.Mx Go.Sx
def hkA : zN := z4 (z4 (z4 (zeU tab) 4 zhr) 12 (ji za0 14 zcD zcH)) 14 (ji zcj 14 zd6 zdT)
theorem zjM : zhZ Tryz.prog hkA [14, 12, 4] := zbp (zbp (zbp (zgE (by kernel_rfl)) 4 zhr) 12 _) 14 _
def zgW : SV := .ptr 0 0 5
def zg8 : List SB := [.cells [.ptr 1 0 1, .ptr 2 0 7, .ptr 3 0 1, .a (.int .i64 (1 : Int)), .map 4] 0, .cells [.lsl 1] 0, .cells [.a (.int .u32 (1 : Int)), .a (.int .u64 (0 : Int)), .a (.int .u32 (1 : Int)), .a (.int .u32 (0 : Int)), .a (.int .u32 (0 : Int)), .a (.int .i32 (0 : Int)), .a (.int .u32 (0 : Int))] 0, .cells [.a .zy] 0, .map [] [] 0]
theorem zi4 : zgR Tryz.prog glA hkA 12 (kD za0 zgW zg8) := kU (n := 14) (vM := zcD) (bs := zcH) (idx := [(12, 0), (0, 0), (5, 0), (10, 0), (11, 0)]) rfl (by kernel_rfl)
def zg0 : SV := .gs 0 0
def zg6 : List SB := [.seq .u8 [42, 32, 79, 75, 32, 114, 101, 97, 100, 121, 13, 10] 0 0]
theorem ziV : zgR Tryz.prog glA hkA 14 (kD zcj zg0 zg6) := kU (n := 14) (vM := zd6) (bs := zdT) (idx := [(47, 0)]) rfl (by kernel_rfl)
def T0 : FT := [(4, zjr [] [.bool] fun _ => some (true, ())), (12, kD za0 zgW zg8), (14, kD zcj zg0 zg6)]
theorem K0 : zic Tryz.prog glA hkA T0 := ⟨zgf rfl, zi4, ziV, trivial⟩
def zA (N : Nat) (p0 : (List UInt8)) (p1 : Int) : Option (Bool × Unit) :=
 (cond (decide ((1000 : Int) < (((List.length p0) : Nat) : Int))) (Option.bind (some (true, ())) fun y1 => (some (y1.1, ()))) (Option.bind (some (true, ())) fun y2 => (cond y2.1 (cond (decide (p1 < (0 : Int))) (cond (true == (decide (p1 < (0 : Int)))) (some (true, ())) (some (false, ()))) (cond (false == (decide (p1 < (0 : Int)))) (some (true, ())) (some (false, ())))) (some (false, ())))))
def zG (N : Nat) : FT := T0
theorem jB (N : Nat) : zji Tryz.prog glA (zgM (zG N)) hkA := zjK zjM rfl K0
def zC (N : Nat) : Pl := .auto
theorem jW (N : Nat) (x : El (zdQ [(.sl .u8), (.int .i64)])) : zav Tryz.prog glA (zgM (zG N)) 1500 (zC N) 3 (zcw [(.sl .u8), (.int .i64)] x) [] (zhv [.bool]) = zA N x.1 x.2.1 := by kernel_rfl
theorem jX (N : Nat) : ∀ fn b, Tryz.prog.funcs[3]? = some fn -> fn.body = some b -> jQ Tryz.prog glA hkA (zC N) b := zhj Tryz.func3 (by kernel_rfl) .nil
end Go.Proofs.YtnbfgnfpdlelbaaGreatDoor
