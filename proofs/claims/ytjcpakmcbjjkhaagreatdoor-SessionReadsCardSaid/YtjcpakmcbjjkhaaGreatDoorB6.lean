/- The machines and the plain laws, part 6. -/
import Derived.Test.YtjcpakmcbjjkhaaGreatDoorB5
import Derived.KernelRfl
set_option linter.unusedVariables false
set_option maxRecDepth 100000
set_option linter.unusedSimpArgs false
namespace Go.Proofs.Model
open Go Go.Gx Go.Mx Go.Sx
@[reducible] def uS1 : U := (.pair (.int .i64) (.pair .str (.int .i64)))
@[reducible] def uS2 : U := (.pair .str (.pair (.int .i64) (.pair .str (.pair (.sl (.pair (.int .u32) (.int .u32))) (.pair (.int .i64) (.pair (.int .i64) (.pair .bool (.pair .u8 (.sl .u8)))))))))
def znU : List UInt8 := [0, 1, 2, 2, 3, 3, 3, 3, 4, 4, 4, 4, 4, 4, 4, 4, 5, 5, 5, 5, 5, 5, 5, 5, 5, 5, 5, 5, 5, 5, 5, 5, 6, 6, 6, 6, 6, 6, 6, 6, 6, 6, 6, 6, 6, 6, 6, 6, 6, 6, 6, 6, 6, 6, 6, 6, 6, 6, 6, 6, 6, 6, 6, 6, 7, 7, 7, 7, 7, 7, 7, 7, 7, 7, 7, 7, 7, 7, 7, 7, 7, 7, 7, 7, 7, 7, 7, 7, 7, 7, 7, 7, 7, 7, 7, 7, 7, 7, 7, 7, 7, 7, 7, 7, 7, 7, 7, 7, 7, 7, 7, 7, 7, 7, 7, 7, 7, 7, 7, 7, 7, 7, 7, 7, 7, 7, 7, 7, 8, 8, 8, 8, 8, 8, 8, 8, 8, 8, 8, 8, 8, 8, 8, 8, 8, 8, 8, 8, 8, 8, 8, 8, 8, 8, 8, 8, 8, 8, 8, 8, 8, 8, 8, 8, 8, 8, 8, 8, 8, 8, 8, 8, 8, 8, 8, 8, 8, 8, 8, 8, 8, 8, 8, 8, 8, 8, 8, 8, 8, 8, 8, 8, 8, 8, 8, 8, 8, 8, 8, 8, 8, 8, 8, 8, 8, 8, 8, 8, 8, 8, 8, 8, 8, 8, 8, 8, 8, 8, 8, 8, 8, 8, 8, 8, 8, 8, 8, 8, 8, 8, 8, 8, 8, 8, 8, 8, 8, 8, 8, 8, 8, 8, 8, 8, 8, 8, 8, 8, 8, 8, 8, 8, 8, 8, 8, 8]
def zbA : List UInt8 := [48, 48, 48, 49, 48, 50, 48, 51, 48, 52, 48, 53, 48, 54, 48, 55, 48, 56, 48, 57, 49, 48, 49, 49, 49, 50, 49, 51, 49, 52, 49, 53, 49, 54, 49, 55, 49, 56, 49, 57, 50, 48, 50, 49, 50, 50, 50, 51, 50, 52, 50, 53, 50, 54, 50, 55, 50, 56, 50, 57, 51, 48, 51, 49, 51, 50, 51, 51, 51, 52, 51, 53, 51, 54, 51, 55, 51, 56, 51, 57, 52, 48, 52, 49, 52, 50, 52, 51, 52, 52, 52, 53, 52, 54, 52, 55, 52, 56, 52, 57, 53, 48, 53, 49, 53, 50, 53, 51, 53, 52, 53, 53, 53, 54, 53, 55, 53, 56, 53, 57, 54, 48, 54, 49, 54, 50, 54, 51, 54, 52, 54, 53, 54, 54, 54, 55, 54, 56, 54, 57, 55, 48, 55, 49, 55, 50, 55, 51, 55, 52, 55, 53, 55, 54, 55, 55, 55, 56, 55, 57, 56, 48, 56, 49, 56, 50, 56, 51, 56, 52, 56, 53, 56, 54, 56, 55, 56, 56, 56, 57, 57, 48, 57, 49, 57, 50, 57, 51, 57, 52, 57, 53, 57, 54, 57, 55, 57, 56, 57, 57]
def qQ (N : Nat) (p0 : (List UInt8)) (p1 : UInt8) : Option (Int × Unit) :=
 (some ((jh p1 p0 0), ()))
def zbe (N : Nat) (p0 : UInt8) : Option (Bool × Unit) :=
 (cond (decide (32 < p0)) (cond (decide (p0 <= 126)) (cond (decide (((UInt8.toNat (zon p0 6) : Nat) : Int) = 0)) (cond (decide (0 <= ((UInt8.toNat (p0 &&& 63) : Nat) : Int))) (some ((!((kU .and .u64 (Int.fdiv 7851200217088 (2 ^ (min (Int.toNat ((UInt8.toNat (p0 &&& 63) : Nat) : Int)) (IntKind.bits .u64)))) 1) == 1)), ())) none) (cond (decide (((UInt8.toNat (zon p0 6) : Nat) : Int) = 1)) (cond (decide (0 <= ((UInt8.toNat (p0 &&& 63) : Nat) : Int))) (some ((!((kU .and .u64 (Int.fdiv 576460753108729856 (2 ^ (min (Int.toNat ((UInt8.toNat (p0 &&& 63) : Nat) : Int)) (IntKind.bits .u64)))) 1) == 1)), ())) none) (cond (decide (((UInt8.toNat (zon p0 6) : Nat) : Int) = 2)) (cond (decide (0 <= ((UInt8.toNat (p0 &&& 63) : Nat) : Int))) (some ((!((kU .and .u64 (Int.fdiv 0 (2 ^ (min (Int.toNat ((UInt8.toNat (p0 &&& 63) : Nat) : Int)) (IntKind.bits .u64)))) 1) == 1)), ())) none) (cond (decide (((UInt8.toNat (zon p0 6) : Nat) : Int) = 3)) (cond (decide (0 <= ((UInt8.toNat (p0 &&& 63) : Nat) : Int))) (some ((!((kU .and .u64 (Int.fdiv 0 (2 ^ (min (Int.toNat ((UInt8.toNat (p0 &&& 63) : Nat) : Int)) (IntKind.bits .u64)))) 1) == 1)), ())) none) none)))) (some (false, ()))) (some (false, ())))
def zb8 (N : Nat) (p0 : UInt8) : Option (Bool × Unit) :=
 (cond (p0 == 93) (some (true, ())) (cond (p0 != 43) (Option.bind (zbe N p0) fun y1 => (some (y1.1, ()))) (some (false, ()))))
def zaL (N : Nat) {R : Type} (x8 : List UInt8) (x9 : Int) (x10 : Int) (rec_ : (List UInt8) -> (Int) -> (Int) -> Option R) (o0 : Unit -> Option R) (o1 : Unit -> Option R) : Option R :=
 (cond (decide (x10 < x9)) (cond (inb x10 (List.length x8)) (Option.bind (zb8 N (nth .u8 x8 (Int.toNat x10))) fun y13 => (cond (!y13.1) (o0 ()) (rec_ x8 x9 (IntKind.wrap .i64 (x10 + 1))))) none) (o1 ()))
def qS (N : Nat) : Nat -> (List UInt8) -> (Int) -> (Int) -> Option ((Unit) ⊕ (Unit))
 | 0, _, _, _ => none
 | m + 1, x8, x9, x10 => zaL N x8 x9 x10 (qS N m) (fun _ => some (Sum.inl ())) (fun _ => some (Sum.inr ()))
def qL (N : Nat) (p0 : (List UInt8)) : Option ((List UInt8) × Int × Bool × Unit) :=
 (Option.bind (qQ N p0 32) fun y1 => (cond (decide (y1.1 < 1)) (some ([], 0, false, ())) (cond ((js 0 y1.1 (List.length p0)) && true) (cond ((slice p0 0 (Int.toNat y1.1)) != []) (Option.bind (qS N N (slice p0 0 (Int.toNat y1.1)) (((List.length (slice p0 0 (Int.toNat y1.1))) : Nat) : Int) 0) fun o18 => (zl o18 (fun a19 => (some ([], 0, false, ()))) (fun b20 => (cond ((js 0 y1.1 (List.length p0)) && true) (some ((slice p0 0 (Int.toNat y1.1)), (IntKind.wrap .i64 (y1.1 + 1)), true, ())) none)))) (some ([], 0, false, ()))) none)))
def wR (N : Nat) (p0 : UInt8) : Option (Bool × Unit) :=
 (cond (p0 != 0) (cond (decide (p0 < 128)) (cond (p0 != 13) (some ((p0 != 10), ())) (some (false, ()))) (some (false, ()))) (some (false, ())))
def j8 (N : Nat) {R : Type} (x18 : List UInt8) (x19 : Int) (x20 : List UInt8) (rec_ : (List UInt8) -> (Int) -> (List UInt8) -> Option R) (o0 : (Bool) -> (List UInt8) -> (Int) -> (List UInt8) -> Option R) : Option R :=
 (cond (decide (x19 < 0)) (o0 false x18 x19 x20) (cond (decide ((((List.length x18) : Nat) : Int) <= x19)) (o0 false x18 x19 x20) (cond (inb (IntKind.wrap .i64 ((IntKind.wrap .i64 (x19 + 1)) - 1)) (List.length x18)) (cond ((nth .u8 x18 (Int.toNat (IntKind.wrap .i64 ((IntKind.wrap .i64 (x19 + 1)) - 1)))) == 34) (o0 true x18 (IntKind.wrap .i64 (x19 + 1)) x20) (cond ((nth .u8 x18 (Int.toNat (IntKind.wrap .i64 ((IntKind.wrap .i64 (x19 + 1)) - 1)))) == 92) (cond (decide ((IntKind.wrap .i64 (x19 + 1)) < 0)) (o0 false x18 (IntKind.wrap .i64 (x19 + 1)) x20) (cond (decide ((((List.length x18) : Nat) : Int) <= (IntKind.wrap .i64 (x19 + 1)))) (o0 false x18 (IntKind.wrap .i64 (x19 + 1)) x20) (cond (inb (IntKind.wrap .i64 ((IntKind.wrap .i64 ((IntKind.wrap .i64 (x19 + 1)) + 1)) - 1)) (List.length x18)) (cond ((nth .u8 x18 (Int.toNat (IntKind.wrap .i64 ((IntKind.wrap .i64 ((IntKind.wrap .i64 (x19 + 1)) + 1)) - 1)))) != 34) (cond ((nth .u8 x18 (Int.toNat (IntKind.wrap .i64 ((IntKind.wrap .i64 ((IntKind.wrap .i64 (x19 + 1)) + 1)) - 1)))) != 92) (o0 false x18 (IntKind.wrap .i64 ((IntKind.wrap .i64 (x19 + 1)) + 1)) x20) (Option.bind (wR N (nth .u8 x18 (Int.toNat (IntKind.wrap .i64 ((IntKind.wrap .i64 ((IntKind.wrap .i64 (x19 + 1)) + 1)) - 1))))) fun y25 => (cond (!y25.1) (o0 false x18 (IntKind.wrap .i64 ((IntKind.wrap .i64 (x19 + 1)) + 1)) x20) (cond (Nat.blt ((List.length x20) + 1) jd) (rec_ x18 (IntKind.wrap .i64 ((IntKind.wrap .i64 (x19 + 1)) + 1)) (x20 ++ ([(nth .u8 x18 (Int.toNat (IntKind.wrap .i64 ((IntKind.wrap .i64 ((IntKind.wrap .i64 (x19 + 1)) + 1)) - 1))))] : List UInt8))) none)))) (Option.bind (wR N (nth .u8 x18 (Int.toNat (IntKind.wrap .i64 ((IntKind.wrap .i64 ((IntKind.wrap .i64 (x19 + 1)) + 1)) - 1))))) fun y26 => (cond (!y26.1) (o0 false x18 (IntKind.wrap .i64 ((IntKind.wrap .i64 (x19 + 1)) + 1)) x20) (cond (Nat.blt ((List.length x20) + 1) jd) (rec_ x18 (IntKind.wrap .i64 ((IntKind.wrap .i64 (x19 + 1)) + 1)) (x20 ++ ([(nth .u8 x18 (Int.toNat (IntKind.wrap .i64 ((IntKind.wrap .i64 ((IntKind.wrap .i64 (x19 + 1)) + 1)) - 1))))] : List UInt8))) none)))) none))) (Option.bind (wR N (nth .u8 x18 (Int.toNat (IntKind.wrap .i64 ((IntKind.wrap .i64 (x19 + 1)) - 1))))) fun y27 => (cond (!y27.1) (o0 false x18 (IntKind.wrap .i64 (x19 + 1)) x20) (cond (Nat.blt ((List.length x20) + 1) jd) (rec_ x18 (IntKind.wrap .i64 (x19 + 1)) (x20 ++ ([(nth .u8 x18 (Int.toNat (IntKind.wrap .i64 ((IntKind.wrap .i64 (x19 + 1)) - 1))))] : List UInt8))) none))))) none)))
def zM (N : Nat) : Nat -> (List UInt8) -> (Int) -> (List UInt8) -> Option ((Bool) × (List UInt8) × (Int) × (List UInt8))
 | 0, _, _, _ => none
 | m + 1, x18, x19, x20 => j8 N x18 x19 x20 (zM N m) (fun v0 v1 v2 v3 => some (v0, v1, v2, v3))
def jw (N : Nat) (p0 : (List UInt8)) (p1 : Int) : Option ((List UInt8) × Int × Bool × Unit) :=
 (cond (decide (p1 < 0)) (some ([], 0, false, ())) (cond (decide ((((List.length p0) : Nat) : Int) <= p1)) (some ([], 0, false, ())) (cond (inb (IntKind.wrap .i64 ((IntKind.wrap .i64 (p1 + 1)) - 1)) (List.length p0)) (cond (!((nth .u8 p0 (Int.toNat (IntKind.wrap .i64 ((IntKind.wrap .i64 (p1 + 1)) - 1)))) == 34)) (some ([], 0, false, ())) (Option.bind (zM N N p0 (IntKind.wrap .i64 (p1 + 1)) []) fun o28 => (cond (!o28.1) (some ([], 0, false, ())) (some (o28.2.2.2, o28.2.2.1, true, ()))))) none)))
def wu (N : Nat) (p0 : Int) : Option ((List UInt8) × Unit) :=
 (cond (decide (p0 < 10)) (cond (js p0 (IntKind.wrap .i64 (p0 + 1)) 36) (some ((slice [48, 49, 50, 51, 52, 53, 54, 55, 56, 57, 97, 98, 99, 100, 101, 102, 103, 104, 105, 106, 107, 108, 109, 110, 111, 112, 113, 114, 115, 116, 117, 118, 119, 120, 121, 122] (Int.toNat p0) (Int.toNat (IntKind.wrap .i64 (p0 + 1)))), ())) none) (cond (js (IntKind.wrap .i64 (p0 * 2)) (IntKind.wrap .i64 ((IntKind.wrap .i64 (p0 * 2)) + 2)) 200) (some ((slice [48, 48, 48, 49, 48, 50, 48, 51, 48, 52, 48, 53, 48, 54, 48, 55, 48, 56, 48, 57, 49, 48, 49, 49, 49, 50, 49, 51, 49, 52, 49, 53, 49, 54, 49, 55, 49, 56, 49, 57, 50, 48, 50, 49, 50, 50, 50, 51, 50, 52, 50, 53, 50, 54, 50, 55, 50, 56, 50, 57, 51, 48, 51, 49, 51, 50, 51, 51, 51, 52, 51, 53, 51, 54, 51, 55, 51, 56, 51, 57, 52, 48, 52, 49, 52, 50, 52, 51, 52, 52, 52, 53, 52, 54, 52, 55, 52, 56, 52, 57, 53, 48, 53, 49, 53, 50, 53, 51, 53, 52, 53, 53, 53, 54, 53, 55, 53, 56, 53, 57, 54, 48, 54, 49, 54, 50, 54, 51, 54, 52, 54, 53, 54, 54, 54, 55, 54, 56, 54, 57, 55, 48, 55, 49, 55, 50, 55, 51, 55, 52, 55, 53, 55, 54, 55, 55, 55, 56, 55, 57, 56, 48, 56, 49, 56, 50, 56, 51, 56, 52, 56, 53, 56, 54, 56, 55, 56, 56, 56, 57, 57, 48, 57, 49, 57, 50, 57, 51, 57, 52, 57, 53, 57, 54, 57, 55, 57, 56, 57, 57] (Int.toNat (IntKind.wrap .i64 (p0 * 2))) (Int.toNat (IntKind.wrap .i64 ((IntKind.wrap .i64 (p0 * 2)) + 2)))), ())) none))
def jG (N : Nat) (p0 : Int) : Option (Int × Unit) :=
 (cond (decide (4294967296 <= p0)) (cond (decide (65536 <= (Int.fdiv p0 (2 ^ (min (Int.toNat 32) (IntKind.bits .u64)))))) (cond (decide (256 <= (Int.fdiv (Int.fdiv p0 (2 ^ (min (Int.toNat 32) (IntKind.bits .u64)))) (2 ^ (min (Int.toNat 16) (IntKind.bits .u64)))))) (cond (inb ((UInt8.toNat (zav (Int.fdiv (Int.fdiv (Int.fdiv p0 (2 ^ (min (Int.toNat 32) (IntKind.bits .u64)))) (2 ^ (min (Int.toNat 16) (IntKind.bits .u64)))) (2 ^ (min (Int.toNat 8) (IntKind.bits .u64))))) : Nat) : Int) 256) (some ((IntKind.wrap .i64 (56 + (IntKind.wrap .i64 ((UInt8.toNat (nth .u8 znU (Int.toNat ((UInt8.toNat (zav (Int.fdiv (Int.fdiv (Int.fdiv p0 (2 ^ (min (Int.toNat 32) (IntKind.bits .u64)))) (2 ^ (min (Int.toNat 16) (IntKind.bits .u64)))) (2 ^ (min (Int.toNat 8) (IntKind.bits .u64))))) : Nat) : Int))) : Nat) : Int)))), ())) none) (cond (inb ((UInt8.toNat (zav (Int.fdiv (Int.fdiv p0 (2 ^ (min (Int.toNat 32) (IntKind.bits .u64)))) (2 ^ (min (Int.toNat 16) (IntKind.bits .u64))))) : Nat) : Int) 256) (some ((IntKind.wrap .i64 (48 + (IntKind.wrap .i64 ((UInt8.toNat (nth .u8 znU (Int.toNat ((UInt8.toNat (zav (Int.fdiv (Int.fdiv p0 (2 ^ (min (Int.toNat 32) (IntKind.bits .u64)))) (2 ^ (min (Int.toNat 16) (IntKind.bits .u64))))) : Nat) : Int))) : Nat) : Int)))), ())) none)) (cond (decide (256 <= (Int.fdiv p0 (2 ^ (min (Int.toNat 32) (IntKind.bits .u64)))))) (cond (inb ((UInt8.toNat (zav (Int.fdiv (Int.fdiv p0 (2 ^ (min (Int.toNat 32) (IntKind.bits .u64)))) (2 ^ (min (Int.toNat 8) (IntKind.bits .u64))))) : Nat) : Int) 256) (some ((IntKind.wrap .i64 (40 + (IntKind.wrap .i64 ((UInt8.toNat (nth .u8 znU (Int.toNat ((UInt8.toNat (zav (Int.fdiv (Int.fdiv p0 (2 ^ (min (Int.toNat 32) (IntKind.bits .u64)))) (2 ^ (min (Int.toNat 8) (IntKind.bits .u64))))) : Nat) : Int))) : Nat) : Int)))), ())) none) (cond (inb ((UInt8.toNat (zav (Int.fdiv p0 (2 ^ (min (Int.toNat 32) (IntKind.bits .u64))))) : Nat) : Int) 256) (some ((IntKind.wrap .i64 (32 + (IntKind.wrap .i64 ((UInt8.toNat (nth .u8 znU (Int.toNat ((UInt8.toNat (zav (Int.fdiv p0 (2 ^ (min (Int.toNat 32) (IntKind.bits .u64))))) : Nat) : Int))) : Nat) : Int)))), ())) none))) (cond (decide (65536 <= p0)) (cond (decide (256 <= (Int.fdiv p0 (2 ^ (min (Int.toNat 16) (IntKind.bits .u64)))))) (cond (inb ((UInt8.toNat (zav (Int.fdiv (Int.fdiv p0 (2 ^ (min (Int.toNat 16) (IntKind.bits .u64)))) (2 ^ (min (Int.toNat 8) (IntKind.bits .u64))))) : Nat) : Int) 256) (some ((IntKind.wrap .i64 (24 + (IntKind.wrap .i64 ((UInt8.toNat (nth .u8 znU (Int.toNat ((UInt8.toNat (zav (Int.fdiv (Int.fdiv p0 (2 ^ (min (Int.toNat 16) (IntKind.bits .u64)))) (2 ^ (min (Int.toNat 8) (IntKind.bits .u64))))) : Nat) : Int))) : Nat) : Int)))), ())) none) (cond (inb ((UInt8.toNat (zav (Int.fdiv p0 (2 ^ (min (Int.toNat 16) (IntKind.bits .u64))))) : Nat) : Int) 256) (some ((IntKind.wrap .i64 (16 + (IntKind.wrap .i64 ((UInt8.toNat (nth .u8 znU (Int.toNat ((UInt8.toNat (zav (Int.fdiv p0 (2 ^ (min (Int.toNat 16) (IntKind.bits .u64))))) : Nat) : Int))) : Nat) : Int)))), ())) none)) (cond (decide (256 <= p0)) (cond (inb ((UInt8.toNat (zav (Int.fdiv p0 (2 ^ (min (Int.toNat 8) (IntKind.bits .u64))))) : Nat) : Int) 256) (some ((IntKind.wrap .i64 (8 + (IntKind.wrap .i64 ((UInt8.toNat (nth .u8 znU (Int.toNat ((UInt8.toNat (zav (Int.fdiv p0 (2 ^ (min (Int.toNat 8) (IntKind.bits .u64))))) : Nat) : Int))) : Nat) : Int)))), ())) none) (cond (inb ((UInt8.toNat (zav p0) : Nat) : Int) 256) (some ((IntKind.wrap .i64 (0 + (IntKind.wrap .i64 ((UInt8.toNat (nth .u8 znU (Int.toNat ((UInt8.toNat (zav p0) : Nat) : Int))) : Nat) : Int)))), ())) none))))
def jV (N : Nat) (p0 : Int) : Option (Int × Unit) :=
 (some ((Int.fdiv (IntKind.wrap .i64 (p0 * 78913)) (2 ^ (min (Int.toNat 18) (IntKind.bits .i64)))), ()))
def jY (N : Nat) (p0 : Bool) : Option (Int × Unit) :=
 (cond p0 (some (1, ())) (some (0, ())))
def zv (N : Nat) (p0 : Int) : Option (Int × Unit) :=
 (Option.bind (jG N p0) fun y1 => (Option.bind (jV N y1.1) fun y2 => (cond ((inb y2.1 20) && (inb y2.1 20)) (Option.bind (jY N (decide ((nth (.int .u64) ([1, 10, 100, 1000, 10000, 100000, 1000000, 10000000, 100000000, 1000000000, 10000000000, 100000000000, 1000000000000, 10000000000000, 100000000000000, 1000000000000000, 10000000000000000, 100000000000000000, 1000000000000000000, 10000000000000000000] : List Int) (Int.toNat y2.1)) <= p0))) fun y3 => (some ((IntKind.wrap .i64 (y2.1 + y3.1)), ()))) none)))
def zw (N : Nat) {R : Type} (x3 : Nat) (x4 : Nat) (x5 : Int) (x6 : Int) (x7 : List UInt8) (rec_ : (Nat) -> (Nat) -> (Int) -> (Int) -> (List UInt8) -> Option R) (o0 : (Nat) -> (Nat) -> (Int) -> (Int) -> (List UInt8) -> Option R) : Option R :=
 (cond (decide (8 <= x6)) (cond (inb (IntKind.wrap .u32 ((IntKind.wrap .u32 ((Int.tmod (Int.tmod (IntKind.wrap .u32 (Int.tmod x5 100000000)) 10000) 100) * 2)) + 1)) 200) (cond (inb (IntKind.wrap .u32 ((Int.tmod (Int.tmod (IntKind.wrap .u32 (Int.tmod x5 100000000)) 10000) 100) * 2)) 200) (cond (inb (IntKind.wrap .i64 (x6 - 1)) x4) (cond (inb (IntKind.wrap .i64 (x6 - 2)) x4) (cond (inb (IntKind.wrap .u32 ((IntKind.wrap .u32 ((IntKind.wrap .u32 (Int.tdiv (Int.tmod (IntKind.wrap .u32 (Int.tmod x5 100000000)) 10000) 100)) * 2)) + 1)) 200) (cond (inb (IntKind.wrap .u32 ((IntKind.wrap .u32 (Int.tdiv (Int.tmod (IntKind.wrap .u32 (Int.tmod x5 100000000)) 10000) 100)) * 2)) 200) (cond (inb (IntKind.wrap .i64 (x6 - 3)) x4) (cond (inb (IntKind.wrap .i64 (x6 - 4)) x4) (cond (inb (IntKind.wrap .u32 ((IntKind.wrap .u32 ((Int.tmod (IntKind.wrap .u32 (Int.tdiv (IntKind.wrap .u32 (Int.tmod x5 100000000)) 10000)) 100) * 2)) + 1)) 200) (cond (inb (IntKind.wrap .u32 ((Int.tmod (IntKind.wrap .u32 (Int.tdiv (IntKind.wrap .u32 (Int.tmod x5 100000000)) 10000)) 100) * 2)) 200) (cond (inb (IntKind.wrap .i64 (x6 - 5)) x4) (cond (inb (IntKind.wrap .i64 (x6 - 6)) x4) (cond (inb (IntKind.wrap .u32 ((IntKind.wrap .u32 ((IntKind.wrap .u32 (Int.tdiv (IntKind.wrap .u32 (Int.tdiv (IntKind.wrap .u32 (Int.tmod x5 100000000)) 10000)) 100)) * 2)) + 1)) 200) (cond (inb (IntKind.wrap .u32 ((IntKind.wrap .u32 (Int.tdiv (IntKind.wrap .u32 (Int.tdiv (IntKind.wrap .u32 (Int.tmod x5 100000000)) 10000)) 100)) * 2)) 200) (cond (inb (IntKind.wrap .i64 (x6 - 7)) x4) (cond (inb (IntKind.wrap .i64 (x6 - 8)) x4) (rec_ x3 x4 (IntKind.wrap .u64 (Int.tdiv x5 100000000)) (IntKind.wrap .i64 (x6 - 8)) (List.set (List.set (List.set (List.set (List.set (List.set (List.set (List.set x7 (x3 + (Int.toNat (IntKind.wrap .i64 (x6 - 1)))) (nth .u8 zbA (Int.toNat (IntKind.wrap .u32 ((IntKind.wrap .u32 ((Int.tmod (Int.tmod (IntKind.wrap .u32 (Int.tmod x5 100000000)) 10000) 100) * 2)) + 1))))) (x3 + (Int.toNat (IntKind.wrap .i64 (x6 - 2)))) (nth .u8 zbA (Int.toNat (IntKind.wrap .u32 ((Int.tmod (Int.tmod (IntKind.wrap .u32 (Int.tmod x5 100000000)) 10000) 100) * 2))))) (x3 + (Int.toNat (IntKind.wrap .i64 (x6 - 3)))) (nth .u8 zbA (Int.toNat (IntKind.wrap .u32 ((IntKind.wrap .u32 ((IntKind.wrap .u32 (Int.tdiv (Int.tmod (IntKind.wrap .u32 (Int.tmod x5 100000000)) 10000) 100)) * 2)) + 1))))) (x3 + (Int.toNat (IntKind.wrap .i64 (x6 - 4)))) (nth .u8 zbA (Int.toNat (IntKind.wrap .u32 ((IntKind.wrap .u32 (Int.tdiv (Int.tmod (IntKind.wrap .u32 (Int.tmod x5 100000000)) 10000) 100)) * 2))))) (x3 + (Int.toNat (IntKind.wrap .i64 (x6 - 5)))) (nth .u8 zbA (Int.toNat (IntKind.wrap .u32 ((IntKind.wrap .u32 ((Int.tmod (IntKind.wrap .u32 (Int.tdiv (IntKind.wrap .u32 (Int.tmod x5 100000000)) 10000)) 100) * 2)) + 1))))) (x3 + (Int.toNat (IntKind.wrap .i64 (x6 - 6)))) (nth .u8 zbA (Int.toNat (IntKind.wrap .u32 ((Int.tmod (IntKind.wrap .u32 (Int.tdiv (IntKind.wrap .u32 (Int.tmod x5 100000000)) 10000)) 100) * 2))))) (x3 + (Int.toNat (IntKind.wrap .i64 (x6 - 7)))) (nth .u8 zbA (Int.toNat (IntKind.wrap .u32 ((IntKind.wrap .u32 ((IntKind.wrap .u32 (Int.tdiv (IntKind.wrap .u32 (Int.tdiv (IntKind.wrap .u32 (Int.tmod x5 100000000)) 10000)) 100)) * 2)) + 1))))) (x3 + (Int.toNat (IntKind.wrap .i64 (x6 - 8)))) (nth .u8 zbA (Int.toNat (IntKind.wrap .u32 ((IntKind.wrap .u32 (Int.tdiv (IntKind.wrap .u32 (Int.tdiv (IntKind.wrap .u32 (Int.tmod x5 100000000)) 10000)) 100)) * 2)))))) none) none) none) none) none) none) none) none) none) none) none) none) none) none) none) none) (o0 x3 x4 x5 x6 x7))
def zd (N : Nat) : Nat -> (Nat) -> (Nat) -> (Int) -> (Int) -> (List UInt8) -> Option ((Nat) × (Nat) × (Int) × (Int) × (List UInt8))
 | 0, _, _, _, _, _ => none
 | m + 1, x3, x4, x5, x6, x7 => zw N x3 x4 x5 x6 x7 (zd N m) (fun v0 v1 v2 v3 v4 => some (v0, v1, v2, v3, v4))
def zq (N : Nat) (p0 : Int) : Option ((List UInt8) × Unit) :=
 (cond (decide ((IntKind.wrap .u64 p0) < 100)) (Option.bind (wu N (IntKind.wrap .i64 (IntKind.wrap .u64 p0))) fun y1 => (some (y1.1, ()))) (Option.bind (zv N (IntKind.wrap .u64 p0)) fun y2 => (cond (js 0 y2.1 24) (Option.bind (zd N N 0 ((Int.toNat y2.1) - 0) (IntKind.wrap .u64 p0) ((((Int.toNat y2.1) - 0) : Nat) : Int) [0, 0, 0, 0, 0, 0, 0, 0, 0, 0, 0, 0, 0, 0, 0, 0, 0, 0, 0, 0, 0, 0, 0, 0]) fun o9 => (cond (decide (4 <= o9.2.2.2.1)) (cond (inb (IntKind.wrap .u32 ((IntKind.wrap .u32 ((Int.tmod (Int.tmod (IntKind.wrap .u32 o9.2.2.1) 10000) 100) * 2)) + 1)) 200) (cond (inb (IntKind.wrap .u32 ((Int.tmod (Int.tmod (IntKind.wrap .u32 o9.2.2.1) 10000) 100) * 2)) 200) (cond (inb (IntKind.wrap .i64 (o9.2.2.2.1 - 1)) o9.2.1) (cond (inb (IntKind.wrap .i64 (o9.2.2.2.1 - 2)) o9.2.1) (cond (inb (IntKind.wrap .u32 ((IntKind.wrap .u32 ((IntKind.wrap .u32 (Int.tdiv (Int.tmod (IntKind.wrap .u32 o9.2.2.1) 10000) 100)) * 2)) + 1)) 200) (cond (inb (IntKind.wrap .u32 ((IntKind.wrap .u32 (Int.tdiv (Int.tmod (IntKind.wrap .u32 o9.2.2.1) 10000) 100)) * 2)) 200) (cond (inb (IntKind.wrap .i64 (o9.2.2.2.1 - 3)) o9.2.1) (cond (inb (IntKind.wrap .i64 (o9.2.2.2.1 - 4)) o9.2.1) (cond (decide (2 <= (IntKind.wrap .i64 (o9.2.2.2.1 - 4)))) (cond (inb (IntKind.wrap .u32 ((IntKind.wrap .u32 ((Int.tmod (IntKind.wrap .u32 (Int.tdiv (IntKind.wrap .u32 o9.2.2.1) 10000)) 100) * 2)) + 1)) 200) (cond (inb (IntKind.wrap .u32 ((Int.tmod (IntKind.wrap .u32 (Int.tdiv (IntKind.wrap .u32 o9.2.2.1) 10000)) 100) * 2)) 200) (cond (inb (IntKind.wrap .i64 ((IntKind.wrap .i64 (o9.2.2.2.1 - 4)) - 1)) o9.2.1) (cond (inb (IntKind.wrap .i64 ((IntKind.wrap .i64 (o9.2.2.2.1 - 4)) - 2)) o9.2.1) (cond (decide (0 < (IntKind.wrap .i64 ((IntKind.wrap .i64 (o9.2.2.2.1 - 4)) - 2)))) (cond (inb 0 o9.2.1) (cond (js 0 y2.1 24) (some ((slice (List.set (List.set (List.set (List.set (List.set (List.set (List.set o9.2.2.2.2 (o9.1 + (Int.toNat (IntKind.wrap .i64 (o9.2.2.2.1 - 1)))) (nth .u8 zbA (Int.toNat (IntKind.wrap .u32 ((IntKind.wrap .u32 ((Int.tmod (Int.tmod (IntKind.wrap .u32 o9.2.2.1) 10000) 100) * 2)) + 1))))) (o9.1 + (Int.toNat (IntKind.wrap .i64 (o9.2.2.2.1 - 2)))) (nth .u8 zbA (Int.toNat (IntKind.wrap .u32 ((Int.tmod (Int.tmod (IntKind.wrap .u32 o9.2.2.1) 10000) 100) * 2))))) (o9.1 + (Int.toNat (IntKind.wrap .i64 (o9.2.2.2.1 - 3)))) (nth .u8 zbA (Int.toNat (IntKind.wrap .u32 ((IntKind.wrap .u32 ((IntKind.wrap .u32 (Int.tdiv (Int.tmod (IntKind.wrap .u32 o9.2.2.1) 10000) 100)) * 2)) + 1))))) (o9.1 + (Int.toNat (IntKind.wrap .i64 (o9.2.2.2.1 - 4)))) (nth .u8 zbA (Int.toNat (IntKind.wrap .u32 ((IntKind.wrap .u32 (Int.tdiv (Int.tmod (IntKind.wrap .u32 o9.2.2.1) 10000) 100)) * 2))))) (o9.1 + (Int.toNat (IntKind.wrap .i64 ((IntKind.wrap .i64 (o9.2.2.2.1 - 4)) - 1)))) (nth .u8 zbA (Int.toNat (IntKind.wrap .u32 ((IntKind.wrap .u32 ((Int.tmod (IntKind.wrap .u32 (Int.tdiv (IntKind.wrap .u32 o9.2.2.1) 10000)) 100) * 2)) + 1))))) (o9.1 + (Int.toNat (IntKind.wrap .i64 ((IntKind.wrap .i64 (o9.2.2.2.1 - 4)) - 2)))) (nth .u8 zbA (Int.toNat (IntKind.wrap .u32 ((Int.tmod (IntKind.wrap .u32 (Int.tdiv (IntKind.wrap .u32 o9.2.2.1) 10000)) 100) * 2))))) (o9.1 + 0) (zav (IntKind.wrap .u32 (48 + (IntKind.wrap .u32 (Int.tdiv (IntKind.wrap .u32 (Int.tdiv (IntKind.wrap .u32 o9.2.2.1) 10000)) 100)))))) 0 (0 + ((Int.toNat y2.1) - 0))), ())) none) none) (cond (js 0 y2.1 24) (some ((slice (List.set (List.set (List.set (List.set (List.set (List.set o9.2.2.2.2 (o9.1 + (Int.toNat (IntKind.wrap .i64 (o9.2.2.2.1 - 1)))) (nth .u8 zbA (Int.toNat (IntKind.wrap .u32 ((IntKind.wrap .u32 ((Int.tmod (Int.tmod (IntKind.wrap .u32 o9.2.2.1) 10000) 100) * 2)) + 1))))) (o9.1 + (Int.toNat (IntKind.wrap .i64 (o9.2.2.2.1 - 2)))) (nth .u8 zbA (Int.toNat (IntKind.wrap .u32 ((Int.tmod (Int.tmod (IntKind.wrap .u32 o9.2.2.1) 10000) 100) * 2))))) (o9.1 + (Int.toNat (IntKind.wrap .i64 (o9.2.2.2.1 - 3)))) (nth .u8 zbA (Int.toNat (IntKind.wrap .u32 ((IntKind.wrap .u32 ((IntKind.wrap .u32 (Int.tdiv (Int.tmod (IntKind.wrap .u32 o9.2.2.1) 10000) 100)) * 2)) + 1))))) (o9.1 + (Int.toNat (IntKind.wrap .i64 (o9.2.2.2.1 - 4)))) (nth .u8 zbA (Int.toNat (IntKind.wrap .u32 ((IntKind.wrap .u32 (Int.tdiv (Int.tmod (IntKind.wrap .u32 o9.2.2.1) 10000) 100)) * 2))))) (o9.1 + (Int.toNat (IntKind.wrap .i64 ((IntKind.wrap .i64 (o9.2.2.2.1 - 4)) - 1)))) (nth .u8 zbA (Int.toNat (IntKind.wrap .u32 ((IntKind.wrap .u32 ((Int.tmod (IntKind.wrap .u32 (Int.tdiv (IntKind.wrap .u32 o9.2.2.1) 10000)) 100) * 2)) + 1))))) (o9.1 + (Int.toNat (IntKind.wrap .i64 ((IntKind.wrap .i64 (o9.2.2.2.1 - 4)) - 2)))) (nth .u8 zbA (Int.toNat (IntKind.wrap .u32 ((Int.tmod (IntKind.wrap .u32 (Int.tdiv (IntKind.wrap .u32 o9.2.2.1) 10000)) 100) * 2))))) 0 (0 + ((Int.toNat y2.1) - 0))), ())) none)) none) none) none) none) (cond (decide (0 < (IntKind.wrap .i64 (o9.2.2.2.1 - 4)))) (cond (inb 0 o9.2.1) (cond (js 0 y2.1 24) (some ((slice (List.set (List.set (List.set (List.set (List.set o9.2.2.2.2 (o9.1 + (Int.toNat (IntKind.wrap .i64 (o9.2.2.2.1 - 1)))) (nth .u8 zbA (Int.toNat (IntKind.wrap .u32 ((IntKind.wrap .u32 ((Int.tmod (Int.tmod (IntKind.wrap .u32 o9.2.2.1) 10000) 100) * 2)) + 1))))) (o9.1 + (Int.toNat (IntKind.wrap .i64 (o9.2.2.2.1 - 2)))) (nth .u8 zbA (Int.toNat (IntKind.wrap .u32 ((Int.tmod (Int.tmod (IntKind.wrap .u32 o9.2.2.1) 10000) 100) * 2))))) (o9.1 + (Int.toNat (IntKind.wrap .i64 (o9.2.2.2.1 - 3)))) (nth .u8 zbA (Int.toNat (IntKind.wrap .u32 ((IntKind.wrap .u32 ((IntKind.wrap .u32 (Int.tdiv (Int.tmod (IntKind.wrap .u32 o9.2.2.1) 10000) 100)) * 2)) + 1))))) (o9.1 + (Int.toNat (IntKind.wrap .i64 (o9.2.2.2.1 - 4)))) (nth .u8 zbA (Int.toNat (IntKind.wrap .u32 ((IntKind.wrap .u32 (Int.tdiv (Int.tmod (IntKind.wrap .u32 o9.2.2.1) 10000) 100)) * 2))))) (o9.1 + 0) (zav (IntKind.wrap .u32 (48 + (IntKind.wrap .u32 (Int.tdiv (IntKind.wrap .u32 o9.2.2.1) 10000)))))) 0 (0 + ((Int.toNat y2.1) - 0))), ())) none) none) (cond (js 0 y2.1 24) (some ((slice (List.set (List.set (List.set (List.set o9.2.2.2.2 (o9.1 + (Int.toNat (IntKind.wrap .i64 (o9.2.2.2.1 - 1)))) (nth .u8 zbA (Int.toNat (IntKind.wrap .u32 ((IntKind.wrap .u32 ((Int.tmod (Int.tmod (IntKind.wrap .u32 o9.2.2.1) 10000) 100) * 2)) + 1))))) (o9.1 + (Int.toNat (IntKind.wrap .i64 (o9.2.2.2.1 - 2)))) (nth .u8 zbA (Int.toNat (IntKind.wrap .u32 ((Int.tmod (Int.tmod (IntKind.wrap .u32 o9.2.2.1) 10000) 100) * 2))))) (o9.1 + (Int.toNat (IntKind.wrap .i64 (o9.2.2.2.1 - 3)))) (nth .u8 zbA (Int.toNat (IntKind.wrap .u32 ((IntKind.wrap .u32 ((IntKind.wrap .u32 (Int.tdiv (Int.tmod (IntKind.wrap .u32 o9.2.2.1) 10000) 100)) * 2)) + 1))))) (o9.1 + (Int.toNat (IntKind.wrap .i64 (o9.2.2.2.1 - 4)))) (nth .u8 zbA (Int.toNat (IntKind.wrap .u32 ((IntKind.wrap .u32 (Int.tdiv (Int.tmod (IntKind.wrap .u32 o9.2.2.1) 10000) 100)) * 2))))) 0 (0 + ((Int.toNat y2.1) - 0))), ())) none))) none) none) none) none) none) none) none) none) (cond (decide (2 <= o9.2.2.2.1)) (cond (inb (IntKind.wrap .u32 ((IntKind.wrap .u32 ((Int.tmod (IntKind.wrap .u32 o9.2.2.1) 100) * 2)) + 1)) 200) (cond (inb (IntKind.wrap .u32 ((Int.tmod (IntKind.wrap .u32 o9.2.2.1) 100) * 2)) 200) (cond (inb (IntKind.wrap .i64 (o9.2.2.2.1 - 1)) o9.2.1) (cond (inb (IntKind.wrap .i64 (o9.2.2.2.1 - 2)) o9.2.1) (cond (decide (0 < (IntKind.wrap .i64 (o9.2.2.2.1 - 2)))) (cond (inb 0 o9.2.1) (cond (js 0 y2.1 24) (some ((slice (List.set (List.set (List.set o9.2.2.2.2 (o9.1 + (Int.toNat (IntKind.wrap .i64 (o9.2.2.2.1 - 1)))) (nth .u8 zbA (Int.toNat (IntKind.wrap .u32 ((IntKind.wrap .u32 ((Int.tmod (IntKind.wrap .u32 o9.2.2.1) 100) * 2)) + 1))))) (o9.1 + (Int.toNat (IntKind.wrap .i64 (o9.2.2.2.1 - 2)))) (nth .u8 zbA (Int.toNat (IntKind.wrap .u32 ((Int.tmod (IntKind.wrap .u32 o9.2.2.1) 100) * 2))))) (o9.1 + 0) (zav (IntKind.wrap .u32 (48 + (IntKind.wrap .u32 (Int.tdiv (IntKind.wrap .u32 o9.2.2.1) 100)))))) 0 (0 + ((Int.toNat y2.1) - 0))), ())) none) none) (cond (js 0 y2.1 24) (some ((slice (List.set (List.set o9.2.2.2.2 (o9.1 + (Int.toNat (IntKind.wrap .i64 (o9.2.2.2.1 - 1)))) (nth .u8 zbA (Int.toNat (IntKind.wrap .u32 ((IntKind.wrap .u32 ((Int.tmod (IntKind.wrap .u32 o9.2.2.1) 100) * 2)) + 1))))) (o9.1 + (Int.toNat (IntKind.wrap .i64 (o9.2.2.2.1 - 2)))) (nth .u8 zbA (Int.toNat (IntKind.wrap .u32 ((Int.tmod (IntKind.wrap .u32 o9.2.2.1) 100) * 2))))) 0 (0 + ((Int.toNat y2.1) - 0))), ())) none)) none) none) none) none) (cond (decide (0 < o9.2.2.2.1)) (cond (inb 0 o9.2.1) (cond (js 0 y2.1 24) (some ((slice (List.set o9.2.2.2.2 (o9.1 + 0) (zav (IntKind.wrap .u32 (48 + (IntKind.wrap .u32 o9.2.2.1))))) 0 (0 + ((Int.toNat y2.1) - 0))), ())) none) none) (cond (js 0 y2.1 24) (some ((slice o9.2.2.2.2 0 (0 + ((Int.toNat y2.1) - 0))), ())) none))))) none)))
def wD (N : Nat) (p0 : (List UInt8)) : Option (Int × Bool × Unit) :=
 (cond (Nat.ble (List.length p0) zkY) (zlL (Go.Lib.parseUintB 32 p0) (fun u1 => (Option.bind (zq N (IntKind.wrap .u32 u1)) fun y2 => (cond (y2.1 != p0) (some (0, false, ())) (some ((IntKind.wrap .u32 u1), true, ()))))) (some (0, false, ())) (some (0, false, ()))) none)
def qc (N : Nat) (p0 : (List UInt8)) : Option ((List UInt8) × Unit) :=
 (cond (Nat.blt (0 + (List.length p0)) jd) (some (([] ++ p0), ())) none)
def ja (N : Nat) (p0 : (List UInt8)) (p1 : Int) : Option ((List UInt8) × Int × Bool × Unit) :=
 (cond (decide (p1 < 0)) (some ([], 0, false, ())) (cond (decide ((((List.length p0) : Nat) : Int) <= p1)) (some ([], 0, false, ())) (cond (inb (IntKind.wrap .i64 ((IntKind.wrap .i64 (p1 + 1)) - 1)) (List.length p0)) (cond (!((nth .u8 p0 (Int.toNat (IntKind.wrap .i64 ((IntKind.wrap .i64 (p1 + 1)) - 1)))) == 123)) (some ([], 0, false, ())) (cond (zW (IntKind.wrap .i64 (p1 + 1)) p0 && true) (Option.bind (qQ N (ze p0 (Int.toNat (IntKind.wrap .i64 (p1 + 1)))) 125) fun y1 => (cond (decide (y1.1 < 0)) (some ([], 0, false, ())) (cond ((js (IntKind.wrap .i64 (p1 + 1)) (IntKind.wrap .i64 ((IntKind.wrap .i64 (p1 + 1)) + y1.1)) (List.length p0)) && true) (Option.bind (wD N (slice p0 (Int.toNat (IntKind.wrap .i64 (p1 + 1))) (Int.toNat (IntKind.wrap .i64 ((IntKind.wrap .i64 (p1 + 1)) + y1.1))))) fun y2 => (cond (!y2.2.1) (some ([], 0, false, ())) (cond (decide (65536 < y2.1)) (some ([], 0, false, ())) (cond (decide ((IntKind.wrap .i64 ((IntKind.wrap .i64 (p1 + 1)) + (IntKind.wrap .i64 (y1.1 + 1)))) < 0)) (some ([], 0, false, ())) (cond (decide ((((List.length p0) : Nat) : Int) <= (IntKind.wrap .i64 ((IntKind.wrap .i64 (p1 + 1)) + (IntKind.wrap .i64 (y1.1 + 1)))))) (some ([], 0, false, ())) (cond (inb (IntKind.wrap .i64 ((IntKind.wrap .i64 ((IntKind.wrap .i64 ((IntKind.wrap .i64 (p1 + 1)) + (IntKind.wrap .i64 (y1.1 + 1)))) + 1)) - 1)) (List.length p0)) (cond (!((nth .u8 p0 (Int.toNat (IntKind.wrap .i64 ((IntKind.wrap .i64 ((IntKind.wrap .i64 ((IntKind.wrap .i64 (p1 + 1)) + (IntKind.wrap .i64 (y1.1 + 1)))) + 1)) - 1)))) == 13)) (some ([], 0, false, ())) (cond (decide ((IntKind.wrap .i64 ((IntKind.wrap .i64 ((IntKind.wrap .i64 (p1 + 1)) + (IntKind.wrap .i64 (y1.1 + 1)))) + 1)) < 0)) (some ([], 0, false, ())) (cond (decide ((((List.length p0) : Nat) : Int) <= (IntKind.wrap .i64 ((IntKind.wrap .i64 ((IntKind.wrap .i64 (p1 + 1)) + (IntKind.wrap .i64 (y1.1 + 1)))) + 1)))) (some ([], 0, false, ())) (cond (inb (IntKind.wrap .i64 ((IntKind.wrap .i64 ((IntKind.wrap .i64 ((IntKind.wrap .i64 ((IntKind.wrap .i64 (p1 + 1)) + (IntKind.wrap .i64 (y1.1 + 1)))) + 1)) + 1)) - 1)) (List.length p0)) (cond (!((nth .u8 p0 (Int.toNat (IntKind.wrap .i64 ((IntKind.wrap .i64 ((IntKind.wrap .i64 ((IntKind.wrap .i64 ((IntKind.wrap .i64 (p1 + 1)) + (IntKind.wrap .i64 (y1.1 + 1)))) + 1)) + 1)) - 1)))) == 10)) (some ([], 0, false, ())) (cond (decide ((IntKind.wrap .i64 ((((List.length p0) : Nat) : Int) - (IntKind.wrap .i64 ((IntKind.wrap .i64 ((IntKind.wrap .i64 ((IntKind.wrap .i64 (p1 + 1)) + (IntKind.wrap .i64 (y1.1 + 1)))) + 1)) + 1)))) < (IntKind.wrap .i64 y2.1))) (some ([], 0, false, ())) (cond ((js (IntKind.wrap .i64 ((IntKind.wrap .i64 ((IntKind.wrap .i64 ((IntKind.wrap .i64 (p1 + 1)) + (IntKind.wrap .i64 (y1.1 + 1)))) + 1)) + 1)) (IntKind.wrap .i64 ((IntKind.wrap .i64 ((IntKind.wrap .i64 ((IntKind.wrap .i64 ((IntKind.wrap .i64 (p1 + 1)) + (IntKind.wrap .i64 (y1.1 + 1)))) + 1)) + 1)) + (IntKind.wrap .i64 y2.1))) (List.length p0)) && true) (Option.bind (qc N (slice p0 (Int.toNat (IntKind.wrap .i64 ((IntKind.wrap .i64 ((IntKind.wrap .i64 ((IntKind.wrap .i64 (p1 + 1)) + (IntKind.wrap .i64 (y1.1 + 1)))) + 1)) + 1))) (Int.toNat (IntKind.wrap .i64 ((IntKind.wrap .i64 ((IntKind.wrap .i64 ((IntKind.wrap .i64 ((IntKind.wrap .i64 (p1 + 1)) + (IntKind.wrap .i64 (y1.1 + 1)))) + 1)) + 1)) + (IntKind.wrap .i64 y2.1)))))) fun y3 => (some (y3.1, (IntKind.wrap .i64 ((IntKind.wrap .i64 ((IntKind.wrap .i64 ((IntKind.wrap .i64 ((IntKind.wrap .i64 (p1 + 1)) + (IntKind.wrap .i64 (y1.1 + 1)))) + 1)) + 1)) + (IntKind.wrap .i64 y2.1))), true, ()))) none))) none)))) none)))))) none))) none)) none)))
def qg (N : Nat) (p0 : (List UInt8)) (p1 : UInt8) : Option (Int × Unit) :=
 (some ((jh p1 p0 0), ()))
def xj (N : Nat) (p0 : (List UInt8)) (p1 : UInt8) : Option (Int × Unit) :=
 (Option.bind (qg N p0 p1) fun y1 => (some (y1.1, ())))
def kg (N : Nat) (p0 : UInt8) : Option (Bool × Unit) :=
 (cond (decide (32 < p0)) (cond (decide (p0 <= 126)) (Option.bind (xj N [40, 41, 34, 123] p0) fun y1 => (some ((decide (y1.1 < 0)), ()))) (some (false, ()))) (some (false, ())))
def kM (N : Nat) {R : Type} (x81 : Int) (x82 : List UInt8) (x83 : Int) (rec_ : (Int) -> (List UInt8) -> (Int) -> Option R) (o0 : (Int) -> (List UInt8) -> (Int) -> Option R) : Option R :=
 (cond (decide (x83 < (((List.length x82) : Nat) : Int))) (cond (inb x83 (List.length x82)) (Option.bind (kg N (nth .u8 x82 (Int.toNat x83))) fun y86 => (cond y86.1 (rec_ x81 x82 (IntKind.wrap .i64 (x83 + 1))) (o0 x81 x82 x83))) none) (o0 x81 x82 x83))
def qa (N : Nat) : Nat -> (Int) -> (List UInt8) -> (Int) -> Option ((Int) × (List UInt8) × (Int))
 | 0, _, _, _ => none
 | m + 1, x81, x82, x83 => kM N x81 x82 x83 (qa N m) (fun v0 v1 v2 => some (v0, v1, v2))
def kO (N : Nat) {R : Type} (x62 : List UInt8) (x63 : Int) (x64 : List (El uS1)) (rec_ : (List UInt8) -> (Int) -> (List (El uS1)) -> Option R) (o0 : (List UInt8) -> (Int) -> (List (El uS1)) -> Option R) (o1 : (Int) -> (List UInt8) -> (Int) -> (List (El uS1)) -> Option R) : Option R :=
 (cond (x63 == (((List.length x62) : Nat) : Int)) (cond (Nat.blt ((List.length x64) + 1) jd) (o0 x62 x63 (x64 ++ ([(0, ([], x63))] : List (El uS1)))) none) (cond (inb x63 (List.length x62)) (cond ((nth .u8 x62 (Int.toNat x63)) == 32) (cond (Nat.blt ((List.length x64) + 1) jd) (rec_ x62 (IntKind.wrap .i64 (x63 + 1)) (x64 ++ ([(1, ([], x63))] : List (El uS1)))) none) (cond ((nth .u8 x62 (Int.toNat x63)) == 40) (cond (Nat.blt ((List.length x64) + 1) jd) (rec_ x62 (IntKind.wrap .i64 (x63 + 1)) (x64 ++ ([(2, ([], x63))] : List (El uS1)))) none) (cond ((nth .u8 x62 (Int.toNat x63)) == 41) (cond (Nat.blt ((List.length x64) + 1) jd) (rec_ x62 (IntKind.wrap .i64 (x63 + 1)) (x64 ++ ([(3, ([], x63))] : List (El uS1)))) none) (cond ((nth .u8 x62 (Int.toNat x63)) == 34) (Option.bind (jw N x62 x63) fun y77 => (cond y77.2.2.1 (cond (!y77.2.2.1) (o1 x63 x62 y77.2.1 x64) (cond (Nat.blt ((List.length x64) + 1) jd) (rec_ x62 y77.2.1 (x64 ++ ([(5, (y77.1, x63))] : List (El uS1)))) none)) (cond (!y77.2.2.1) (o1 x63 x62 x63 x64) (cond (Nat.blt ((List.length x64) + 1) jd) (rec_ x62 x63 (x64 ++ ([(5, (y77.1, x63))] : List (El uS1)))) none)))) (cond ((nth .u8 x62 (Int.toNat x63)) == 123) (Option.bind (ja N x62 x63) fun y78 => (cond y78.2.2.1 (cond (!y78.2.2.1) (o1 x63 x62 y78.2.1 x64) (cond (Nat.blt ((List.length x64) + 1) jd) (rec_ x62 y78.2.1 (x64 ++ ([(6, (y78.1, x63))] : List (El uS1)))) none)) (cond (!y78.2.2.1) (o1 x63 x62 x63 x64) (cond (Nat.blt ((List.length x64) + 1) jd) (rec_ x62 x63 (x64 ++ ([(6, (y78.1, x63))] : List (El uS1)))) none)))) (Option.bind (qa N N x63 x62 x63) fun o87 => (cond ((js o87.1 o87.2.2 (List.length o87.2.1)) && true) (cond (!(decide (o87.1 < o87.2.2))) (o1 x63 o87.2.1 o87.2.2 x64) (cond (Nat.blt ((List.length x64) + 1) jd) (rec_ o87.2.1 o87.2.2 (x64 ++ ([(4, ((slice o87.2.1 (Int.toNat o87.1) (Int.toNat o87.2.2)), x63))] : List (El uS1)))) none)) none))))))) none))
def zH (N : Nat) : Nat -> (List UInt8) -> (Int) -> (List (El uS1)) -> Option (((List UInt8) × (Int) × (List (El uS1))) ⊕ ((Int) × (List UInt8) × (Int) × (List (El uS1))))
 | 0, _, _, _ => none
 | m + 1, x62, x63, x64 => kO N x62 x63 x64 (zH N m) (fun v0 v1 v2 => some (Sum.inl (v0, v1, v2))) (fun v0 v1 v2 v3 => some (Sum.inr (v0, v1, v2, v3)))
def kf (N : Nat) (p0 : (List UInt8)) : Option ((List (El uS1)) × Int × Unit) :=
 (Option.bind (zH N N p0 0 []) fun o92 => (zl o92 (fun a93 => (some (a93.2.2, (-1), ()))) (fun b94 => (some ([], b94.1, ())))))
def xI (N : Nat) {R : Type} (x4 : List Int) (x5 : Int) (x6 : Int) (x7 : Int) (rec_ : (List Int) -> (Int) -> (Int) -> (Int) -> Option R) (o0 : (Int) -> Option R) (o1 : Unit -> Option R) : Option R :=
 (cond (decide (x7 < x6)) (cond (inb x7 (List.length x4)) (cond (x5 == (nth (.int .i64) x4 (Int.toNat x7))) (o0 x7) (rec_ x4 x5 x6 (IntKind.wrap .i64 (x7 + 1)))) none) (o1 ()))
def zE (N : Nat) : Nat -> (List Int) -> (Int) -> (Int) -> (Int) -> Option (((Int)) ⊕ (Unit))
 | 0, _, _, _, _ => none
 | m + 1, x4, x5, x6, x7 => xI N x4 x5 x6 x7 (zE N m) (fun v0 => some (Sum.inl v0)) (fun _ => some (Sum.inr ()))
def qp (N : Nat) (p0 : (List Int)) (p1 : Int) : Option (Int × Unit) :=
 (Option.bind (zE N N p0 p1 (((List.length p0) : Nat) : Int) 0) fun o13 => (zl o13 (fun a14 => (some (a14, ()))) (fun b15 => (some ((-1), ())))))
def za (N : Nat) (p0 : (List Int)) (p1 : Int) : Option (Bool × Unit) :=
 (Option.bind (qp N p0 p1) fun y1 => (some ((decide (0 <= y1.1)), ())))
def zaB (N : Nat) {R : Type} (x5 : Int) (x6 : Int) (x7 : List UInt8) (rec_ : (Int) -> (Int) -> (List UInt8) -> Option R) (o0 : (List UInt8) -> Option R) : Option R :=
 (cond (decide (x6 < x5)) (cond (inb x6 (List.length x7)) (cond (decide (97 <= (nth .u8 x7 (Int.toNat x6)))) (cond (decide ((nth .u8 x7 (Int.toNat x6)) <= 122)) (cond (inb x6 (List.length x7)) (rec_ x5 (IntKind.wrap .i64 (x6 + 1)) (List.set x7 (Int.toNat x6) ((nth .u8 x7 (Int.toNat x6)) &&& ~~~32))) none) (cond (inb x6 (List.length x7)) (rec_ x5 (IntKind.wrap .i64 (x6 + 1)) (List.set x7 (Int.toNat x6) (nth .u8 x7 (Int.toNat x6)))) none)) (cond (inb x6 (List.length x7)) (rec_ x5 (IntKind.wrap .i64 (x6 + 1)) (List.set x7 (Int.toNat x6) (nth .u8 x7 (Int.toNat x6)))) none)) none) (o0 x7))
def qR (N : Nat) : Nat -> (Int) -> (Int) -> (List UInt8) -> Option ((List UInt8))
 | 0, _, _, _ => none
 | m + 1, x5, x6, x7 => zaB N x5 x6 x7 (qR N m) (fun v0 => some v0)
def qZ (N : Nat) (p0 : (List UInt8)) : Option ((List UInt8) × Unit) :=
 (cond (Nat.blt (List.length p0) jd) (Option.bind (qR N N (((List.length p0) : Nat) : Int) 0 p0) fun o9 => (some (o9, ()))) none)
def wA (N : Nat) {R : Type} (x4 : List (List UInt8)) (x5 : List UInt8) (x6 : Int) (x7 : Int) (rec_ : (List (List UInt8)) -> (List UInt8) -> (Int) -> (Int) -> Option R) (o0 : (Int) -> Option R) (o1 : Unit -> Option R) : Option R :=
 (cond (decide (x7 < x6)) (cond (inb x7 (List.length x4)) (cond (x5 == (nth .str x4 (Int.toNat x7))) (o0 x7) (rec_ x4 x5 x6 (IntKind.wrap .i64 (x7 + 1)))) none) (o1 ()))
def zi (N : Nat) : Nat -> (List (List UInt8)) -> (List UInt8) -> (Int) -> (Int) -> Option (((Int)) ⊕ (Unit))
 | 0, _, _, _, _ => none
 | m + 1, x4, x5, x6, x7 => wA N x4 x5 x6 x7 (zi N m) (fun v0 => some (Sum.inl v0)) (fun _ => some (Sum.inr ()))
def zp (N : Nat) (p0 : (List (List UInt8))) (p1 : (List UInt8)) : Option (Int × Unit) :=
 (Option.bind (zi N N p0 p1 (((List.length p0) : Nat) : Int) 0) fun o13 => (zl o13 (fun a14 => (some (a14, ()))) (fun b15 => (some ((-1), ())))))
def jO (N : Nat) (p0 : (List UInt8)) : Option (Int × Bool × Unit) :=
 (Option.bind (qZ N p0) fun y1 => (Option.bind (zp N ([[78, 79, 79, 80], [76, 79, 71, 79, 85, 84], [67, 76, 79, 83, 69], [69, 88, 80, 85, 78, 71, 69], [83, 69, 76, 69, 67, 84], [65, 80, 80, 69, 78, 68], [70, 69, 84, 67, 72], [83, 84, 79, 82, 69]] : List (List UInt8)) y1.1) fun y2 => (some ((IntKind.wrap .i64 (y2.1 + 1)), (decide (0 <= y2.1)), ()))))
def zbd (N : Nat) (p0 : UInt8) : Option (Bool × Unit) :=
 (Option.bind (zbe N p0) fun y1 => (some (y1.1, ())))
def zJ (N : Nat) (p0 : UInt8) : Option (Bool × Unit) :=
 (Option.bind (zbd N p0) fun y1 => (cond y1.1 (some (true, ())) (some ((p0 == 93), ()))))
def jg (N : Nat) (p0 : (List UInt8)) (p1 : (List UInt8)) : Option (Bool × Unit) :=
 (cond (decide ((((List.length p1) : Nat) : Int) <= (((List.length p0) : Nat) : Int))) (cond (js 0 (((List.length p1) : Nat) : Int) (List.length p0)) (some (((slice p0 0 (Int.toNat (((List.length p1) : Nat) : Int))) == p1), ())) none) (some (false, ())))
def ji (N : Nat) (p0 : (List UInt8)) (p1 : (List UInt8)) : Option ((List UInt8) × Bool × Unit) :=
 (Option.bind (jg N p0 p1) fun y1 => (cond (!y1.1) (some (p0, false, ())) (cond (js (((List.length p1) : Nat) : Int) (((List.length p0) : Nat) : Int) (List.length p0)) (some ((slice p0 (Int.toNat (((List.length p1) : Nat) : Int)) (Int.toNat (((List.length p0) : Nat) : Int))), true, ())) none)))
def je (N : Nat) (p0 : (List UInt8)) (p1 : (List UInt8)) : Option ((List UInt8) × Bool × Unit) :=
 (Option.bind (ji N p0 p1) fun y1 => (some (y1.1, y1.2.1, ())))
def qf (N : Nat) (p0 : (List UInt8)) (p1 : (List UInt8)) : Option (Bool × Unit) :=
 (cond (decide ((((List.length p1) : Nat) : Int) <= (((List.length p0) : Nat) : Int))) (cond (js (IntKind.wrap .i64 ((((List.length p0) : Nat) : Int) - (((List.length p1) : Nat) : Int))) (((List.length p0) : Nat) : Int) (List.length p0)) (some (((slice p0 (Int.toNat (IntKind.wrap .i64 ((((List.length p0) : Nat) : Int) - (((List.length p1) : Nat) : Int)))) (Int.toNat (((List.length p0) : Nat) : Int))) == p1), ())) none) (some (false, ())))
def qh (N : Nat) (p0 : (List UInt8)) (p1 : (List UInt8)) : Option ((List UInt8) × Bool × Unit) :=
 (Option.bind (qf N p0 p1) fun y1 => (cond (!y1.1) (some (p0, false, ())) (cond (js 0 (IntKind.wrap .i64 ((((List.length p0) : Nat) : Int) - (((List.length p1) : Nat) : Int))) (List.length p0)) (some ((slice p0 0 (Int.toNat (IntKind.wrap .i64 ((((List.length p0) : Nat) : Int) - (((List.length p1) : Nat) : Int))))), true, ())) none)))
def zQ (N : Nat) (p0 : (List UInt8)) (p1 : (List UInt8)) : Option ((List UInt8) × Bool × Unit) :=
 (Option.bind (qh N p0 p1) fun y1 => (some (y1.1, y1.2.1, ())))
def zeX (N : Nat) {R : Type} (x6 : UInt8) (x7 : Int) (x8 : List UInt8) (rec_ : (UInt8) -> (Int) -> (List UInt8) -> Option R) (o0 : (List UInt8) -> Option R) : Option R :=
 (cond (decide (x7 < 5)) (cond (decide (0 <= x7)) (cond ((x6 &&& (zqV 1 x7)) != 0) (cond (Nat.blt ((List.length x8) + 1) jd) (rec_ x6 (IntKind.wrap .i64 (x7 + 1)) (x8 ++ ([(x6 &&& (zqV 1 x7))] : List UInt8))) none) (rec_ x6 (IntKind.wrap .i64 (x7 + 1)) x8)) none) (o0 x8))
def wX (N : Nat) : Nat -> (UInt8) -> (Int) -> (List UInt8) -> Option ((List UInt8))
 | 0, _, _, _ => none
 | m + 1, x6, x7, x8 => zeX N x6 x7 x8 (wX N m) (fun v0 => some v0)
def zcL (N : Nat) (p0 : UInt8) : Option ((List UInt8) × Unit) :=
 (Option.bind (wX N N p0 0 []) fun o10 => (some (o10, ())))
def zeG (N : Nat) {R : Type} (x3 : UInt8) (x4 : Int) (x5 : List (List UInt8)) (rec_ : (UInt8) -> (Int) -> (List (List UInt8)) -> Option R) (o0 : (List UInt8) -> (List (List UInt8)) -> Option R) (o1 : (List (List UInt8)) -> Option R) : Option R :=
 (cond (decide (x4 < 5)) (cond (inb x4 (List.length x5)) (cond (decide (0 <= x4)) (cond (x3 == (zqV 1 x4)) (o0 (nth .str x5 (Int.toNat x4)) x5) (rec_ x3 (IntKind.wrap .i64 (x4 + 1)) x5)) none) none) (o1 x5))
def kh (N : Nat) : Nat -> (UInt8) -> (Int) -> (List (List UInt8)) -> Option (((List UInt8) × (List (List UInt8))) ⊕ ((List (List UInt8))))
 | 0, _, _, _ => none
 | m + 1, x3, x4, x5 => zeG N x3 x4 x5 (kh N m) (fun v0 v1 => some (Sum.inl (v0, v1))) (fun v0 => some (Sum.inr v0))
def zfb (N : Nat) (p0 : UInt8) : Option ((List UInt8) × Unit) :=
 (Option.bind (kh N N p0 0 ([[92, 65, 110, 115, 119, 101, 114, 101, 100], [92, 70, 108, 97, 103, 103, 101, 100], [92, 68, 101, 108, 101, 116, 101, 100], [92, 83, 101, 101, 110], [92, 68, 114, 97, 102, 116]] : List (List UInt8))) fun o11 => (zl o11 (fun a12 => (some (a12.1, ()))) (fun b13 => (some ([], ())))))
def zdr (N : Nat) {R : Type} (x21 : List UInt8) (x22 : Int) (x23 : Int) (x24 : List ((List UInt8) × UInt8)) (rec_ : (List UInt8) -> (Int) -> (Int) -> (List ((List UInt8) × UInt8)) -> Option R) (o0 : (List ((List UInt8) × UInt8)) -> Option R) : Option R :=
 (cond (decide (x23 < x22)) (cond (inb x23 (List.length x21)) (Option.bind (zfb N (nth .u8 x21 (Int.toNat x23))) fun y28 => (Option.bind (qZ N y28.1) fun y29 => (rec_ x21 x22 (IntKind.wrap .i64 (x23 + 1)) (ziB .str .u8 x24 y29.1 (nth .u8 x21 (Int.toNat x23)))))) none) (o0 x24))
def jm (N : Nat) : Nat -> (List UInt8) -> (Int) -> (Int) -> (List ((List UInt8) × UInt8)) -> Option ((List ((List UInt8) × UInt8)))
 | 0, _, _, _, _ => none
 | m + 1, x21, x22, x23, x24 => zdr N x21 x22 x23 x24 (jm N m) (fun v0 => some v0)
def wB (N : Nat) {R : Type} (x40 : UInt8) (x41 : Int) (x42 : Int) (x43 : List ((List UInt8) × UInt8)) (x44 : List (List UInt8)) (rec_ : (UInt8) -> (Int) -> (Int) -> (List ((List UInt8) × UInt8)) -> (List (List UInt8)) -> Option R) (o0 : (UInt8) -> (List ((List UInt8) × UInt8)) -> (List (List UInt8)) -> Option R) (o1 : (UInt8) -> (List ((List UInt8) × UInt8)) -> (List (List UInt8)) -> Option R) : Option R :=
 (cond (decide (x42 < x41)) (cond (inb x42 (List.length x44)) (Option.bind (qZ N (nth .str x44 (Int.toNat x42))) fun y47 => (cond (!(Option.isSome (zaO .str .u8 x43 y47.1))) (o0 0 x43 x44) (rec_ (x40 ||| (Option.getD (zaO .str .u8 x43 y47.1) 0)) x41 (IntKind.wrap .i64 (x42 + 1)) x43 x44))) none) (o1 x40 x43 x44))
def qE (N : Nat) : Nat -> (UInt8) -> (Int) -> (Int) -> (List ((List UInt8) × UInt8)) -> (List (List UInt8)) -> Option (((UInt8) × (List ((List UInt8) × UInt8)) × (List (List UInt8))) ⊕ ((UInt8) × (List ((List UInt8) × UInt8)) × (List (List UInt8))))
 | 0, _, _, _, _, _ => none
 | m + 1, x40, x41, x42, x43, x44 => wB N x40 x41 x42 x43 x44 (qE N m) (fun v0 v1 v2 => some (Sum.inl (v0, v1, v2))) (fun v0 v1 v2 => some (Sum.inr (v0, v1, v2)))
def jA (N : Nat) (p0 : (List UInt8)) : Option (UInt8 × Bool × Unit) :=
 (Option.bind (je N p0 [40]) fun y1 => (Option.bind (zQ N y1.1 [41]) fun y2 => (cond (!y1.2.1) (some (0, false, ())) (cond (!y2.2.1) (some (0, false, ())) (cond (y2.1 == []) (some (0, true, ())) (Option.bind (zcL N 31) fun y3 => (Option.bind (jm N N y3.1 (((List.length y3.1) : Nat) : Int) 0 []) fun o30 => (cond (Nat.ble (List.length y2.1) zgN) (Option.bind (qE N N 0 (((List.length (qV y2.1 [32])) : Nat) : Int) 0 o30 (qV y2.1 [32])) fun o52 => (zl o52 (fun a53 => (some (a53.1, false, ()))) (fun b54 => (some (b54.1, true, ()))))) none))))))))
def zU (N : Nat) (p0 : (List UInt8)) : Option (Int × Bool × Unit) :=
 (cond (p0 == [42]) (some (0, true, ())) (Option.bind (wD N p0) fun y1 => (cond y1.2.1 (some (y1.1, (y1.1 != 0), ())) (some (y1.1, false, ())))))
def kI (N : Nat) {R : Type} (x30 : Int) (x31 : Int) (x32 : List (List UInt8)) (x33 : List (Int × Int)) (rec_ : (Int) -> (Int) -> (List (List UInt8)) -> (List (Int × Int)) -> Option R) (o0 : (List (List UInt8)) -> (List (Int × Int)) -> Option R) (o1 : (List (List UInt8)) -> (List (Int × Int)) -> Option R) : Option R :=
 (cond (decide (x31 < x30)) (cond (inb x31 (List.length x32)) (cond ([58] == (nth .str x32 (Int.toNat x31))) (cond (js 0 0 (List.length (nth .str x32 (Int.toNat x31)))) (cond (js 1 (((List.length (nth .str x32 (Int.toNat x31))) : Nat) : Int) (List.length (nth .str x32 (Int.toNat x31)))) (Option.bind (zU N (slice (nth .str x32 (Int.toNat x31)) 0 0)) fun y42 => (Option.bind (zU N (slice (nth .str x32 (Int.toNat x31)) 1 (Int.toNat (((List.length (nth .str x32 (Int.toNat x31))) : Nat) : Int)))) fun y43 => (cond (!y42.2.1) (o0 x32 x33) (cond (!y43.2.1) (o0 x32 x33) (cond (Nat.blt ((List.length x33) + 1) jd) (rec_ x30 (IntKind.wrap .i64 (x31 + 1)) x32 (x33 ++ ([(y42.1, y43.1)] : List (Int × Int)))) none))))) none) none) (Option.bind (qg N (nth .str x32 (Int.toNat x31)) 58) fun y44 => (cond (decide (0 <= y44.1)) (cond (js 0 y44.1 (List.length (nth .str x32 (Int.toNat x31)))) (cond (js (IntKind.wrap .i64 (y44.1 + 1)) (((List.length (nth .str x32 (Int.toNat x31))) : Nat) : Int) (List.length (nth .str x32 (Int.toNat x31)))) (Option.bind (zU N (slice (nth .str x32 (Int.toNat x31)) 0 (Int.toNat y44.1))) fun y45 => (Option.bind (zU N (slice (nth .str x32 (Int.toNat x31)) (Int.toNat (IntKind.wrap .i64 (y44.1 + 1))) (Int.toNat (((List.length (nth .str x32 (Int.toNat x31))) : Nat) : Int)))) fun y46 => (cond (!y45.2.1) (o0 x32 x33) (cond (!y46.2.1) (o0 x32 x33) (cond (Nat.blt ((List.length x33) + 1) jd) (rec_ x30 (IntKind.wrap .i64 (x31 + 1)) x32 (x33 ++ ([(y45.1, y46.1)] : List (Int × Int)))) none))))) none) none) (Option.bind (zU N (nth .str x32 (Int.toNat x31))) fun y47 => (Option.bind (zU N (nth .str x32 (Int.toNat x31))) fun y48 => (cond (!y47.2.1) (o0 x32 x33) (cond (!y48.2.1) (o0 x32 x33) (cond (Nat.blt ((List.length x33) + 1) jd) (rec_ x30 (IntKind.wrap .i64 (x31 + 1)) x32 (x33 ++ ([(y47.1, y48.1)] : List (Int × Int)))) none)))))))) none) (o1 x32 x33))
def zC (N : Nat) : Nat -> (Int) -> (Int) -> (List (List UInt8)) -> (List (Int × Int)) -> Option (((List (List UInt8)) × (List (Int × Int))) ⊕ ((List (List UInt8)) × (List (Int × Int))))
 | 0, _, _, _, _ => none
 | m + 1, x30, x31, x32, x33 => kI N x30 x31 x32 x33 (zC N m) (fun v0 v1 => some (Sum.inl (v0, v1))) (fun v0 v1 => some (Sum.inr (v0, v1)))
def jo (N : Nat) (p0 : (List UInt8)) : Option ((List (Int × Int)) × Bool × Unit) :=
 (cond (Nat.ble (List.length p0) zgN) (Option.bind (zC N N (((List.length (qV p0 [44])) : Nat) : Int) 0 (qV p0 [44]) []) fun o53 => (zl o53 (fun a54 => (some ([], false, ()))) (fun b55 => (some (b55.2, true, ()))))) none)
def jq (N : Nat) (p0 : (List UInt8)) : Option (Int × Bool × Unit) :=
 (Option.bind (qZ N p0) fun y1 => (Option.bind (zp N ([[70, 76, 65, 71, 83], [85, 73, 68], [82, 70, 67, 56, 50, 50, 46, 83, 73, 90, 69], [66, 79, 68, 89, 46, 80, 69, 69, 75, 91, 93], [66, 79, 68, 89, 91, 93]] : List (List UInt8)) y1.1) fun y2 => (cond (decide (y2.1 < 0)) (some (0, false, ())) (cond (decide (0 <= y2.1)) (some ((IntKind.wrap .i64 (1 * (2 ^ (min (Int.toNat y2.1) (IntKind.bits .i64))))), true, ())) none))))
def kr (N : Nat) {R : Type} (x18 : List UInt8) (x19 : Int) (x20 : Int) (rec_ : (List UInt8) -> (Int) -> (Int) -> Option R) (o0 : Unit -> Option R) (o1 : Unit -> Option R) : Option R :=
 (cond (decide (x20 < x19)) (cond (inb x20 (List.length x18)) (Option.bind (zJ N (nth .u8 x18 (Int.toNat x20))) fun y23 => (cond (!y23.1) (o0 ()) (rec_ x18 x19 (IntKind.wrap .i64 (x20 + 1))))) none) (o1 ()))
def zY (N : Nat) : Nat -> (List UInt8) -> (Int) -> (Int) -> Option ((Unit) ⊕ (Unit))
 | 0, _, _, _ => none
 | m + 1, x18, x19, x20 => kr N x18 x19 x20 (zY N m) (fun _ => some (Sum.inl ())) (fun _ => some (Sum.inr ()))
def qI (N : Nat) {R : Type} (x40 : List (El uS1)) (x41 : List UInt8) (x42 : Int) (x43 : List UInt8) (x44 : UInt8) (rec_ : (List (El uS1)) -> (List UInt8) -> (Int) -> (List UInt8) -> (UInt8) -> Option R) (o0 : (List (El uS1)) -> (List UInt8) -> (Int) -> (List UInt8) -> (UInt8) -> Option R) (o1 : (List (El uS1)) -> (List UInt8) -> (Int) -> (List UInt8) -> (UInt8) -> Option R) : Option R :=
 (cond (inb 0 (List.length x40)) (Option.bind (za N ([4] : List Int) (nth uS1 x40 0).1) fun y49 => (cond (!y49.1) (o0 x40 x41 x42 x43 x44) (cond (zW 1 x40 && true) (cond (decide (List.length ([40] : List UInt8) + List.length (nth uS1 x40 0).2.1 < 4611686018427387904)) (cond (decide (List.length (([40] : List UInt8) ++ (nth uS1 x40 0).2.1) + List.length ([41] : List UInt8) < 4611686018427387904)) (Option.bind (jA N ((([40] : List UInt8) ++ (nth uS1 x40 0).2.1) ++ ([41] : List UInt8))) fun y50 => (cond y50.2.1 (cond (!((nth uS1 x40 0).2.1 != ([] : List UInt8))) (o0 (ze x40 1) x41 x42 x43 x44) (cond (inb 0 (List.length (ze x40 1))) (cond ((nth uS1 (ze x40 1) 0).1 == (3 : Int)) (o1 (ze x40 1) x41 x42 x43 (x44 ||| y50.1)) (cond (inb 0 (List.length (ze x40 1))) (Option.bind (za N ([1] : List Int) (nth uS1 (ze x40 1) 0).1) fun y51 => (cond (!y51.1) (o0 (ze x40 1) x41 x42 x43 (x44 ||| y50.1)) (cond (zW 1 (ze x40 1) && true) (rec_ (ze (ze x40 1) 1) x41 x42 x43 (x44 ||| y50.1)) none))) none)) none)) (o0 (ze x40 1) x41 x42 x43 x44))) none) none) none))) none)
def zA (N : Nat) : Nat -> (List (El uS1)) -> (List UInt8) -> (Int) -> (List UInt8) -> (UInt8) -> Option (((List (El uS1)) × (List UInt8) × (Int) × (List UInt8) × (UInt8)) ⊕ ((List (El uS1)) × (List UInt8) × (Int) × (List UInt8) × (UInt8)))
 | 0, _, _, _, _, _ => none
 | m + 1, x40, x41, x42, x43, x44 => qI N x40 x41 x42 x43 x44 (zA N m) (fun v0 v1 v2 v3 v4 => some (Sum.inl (v0, v1, v2, v3, v4))) (fun v0 v1 v2 v3 v4 => some (Sum.inr (v0, v1, v2, v3, v4)))
def kz (N : Nat) {R : Type} (x75 : List UInt8) (x76 : Int) (x77 : Int) (rec_ : (List UInt8) -> (Int) -> (Int) -> Option R) (o0 : Unit -> Option R) (o1 : Unit -> Option R) : Option R :=
 (cond (decide (x77 < x76)) (cond (inb x77 (List.length x75)) (Option.bind (zJ N (nth .u8 x75 (Int.toNat x77))) fun y80 => (cond (!y80.1) (o0 ()) (rec_ x75 x76 (IntKind.wrap .i64 (x77 + 1))))) none) (o1 ()))
def zZ (N : Nat) : Nat -> (List UInt8) -> (Int) -> (Int) -> Option ((Unit) ⊕ (Unit))
 | 0, _, _, _ => none
 | m + 1, x75, x76, x77 => kz N x75 x76 x77 (zZ N m) (fun _ => some (Sum.inl ())) (fun _ => some (Sum.inr ()))
def zbp (N : Nat) {R : Type} (x94 : List (El uS1)) (x95 : List UInt8) (x96 : Int) (x97 : List UInt8) (x98 : UInt8) (rec_ : (List (El uS1)) -> (List UInt8) -> (Int) -> (List UInt8) -> (UInt8) -> Option R) (o0 : (List (El uS1)) -> (List UInt8) -> (Int) -> (List UInt8) -> (UInt8) -> Option R) (o1 : (List (El uS1)) -> (List UInt8) -> (Int) -> (List UInt8) -> (UInt8) -> Option R) : Option R :=
 (cond (inb 0 (List.length x94)) (Option.bind (za N ([4] : List Int) (nth uS1 x94 0).1) fun y103 => (cond (!y103.1) (o0 x94 x95 x96 x97 x98) (cond (zW 1 x94 && true) (cond (decide (List.length ([40] : List UInt8) + List.length (nth uS1 x94 0).2.1 < 4611686018427387904)) (cond (decide (List.length (([40] : List UInt8) ++ (nth uS1 x94 0).2.1) + List.length ([41] : List UInt8) < 4611686018427387904)) (Option.bind (jA N ((([40] : List UInt8) ++ (nth uS1 x94 0).2.1) ++ ([41] : List UInt8))) fun y104 => (cond y104.2.1 (cond (!((nth uS1 x94 0).2.1 != ([] : List UInt8))) (o0 (ze x94 1) x95 x96 x97 x98) (cond (inb 0 (List.length (ze x94 1))) (cond ((nth uS1 (ze x94 1) 0).1 == (3 : Int)) (o1 (ze x94 1) x95 x96 x97 (x98 ||| y104.1)) (cond (inb 0 (List.length (ze x94 1))) (Option.bind (za N ([1] : List Int) (nth uS1 (ze x94 1) 0).1) fun y105 => (cond (!y105.1) (o0 (ze x94 1) x95 x96 x97 (x98 ||| y104.1)) (cond (zW 1 (ze x94 1) && true) (rec_ (ze (ze x94 1) 1) x95 x96 x97 (x98 ||| y104.1)) none))) none)) none)) (o0 (ze x94 1) x95 x96 x97 x98))) none) none) none))) none)
def jK (N : Nat) : Nat -> (List (El uS1)) -> (List UInt8) -> (Int) -> (List UInt8) -> (UInt8) -> Option (((List (El uS1)) × (List UInt8) × (Int) × (List UInt8) × (UInt8)) ⊕ ((List (El uS1)) × (List UInt8) × (Int) × (List UInt8) × (UInt8)))
 | 0, _, _, _, _, _ => none
 | m + 1, x94, x95, x96, x97, x98 => zbp N x94 x95 x96 x97 x98 (jK N m) (fun v0 v1 v2 v3 v4 => some (Sum.inl (v0, v1, v2, v3, v4))) (fun v0 v1 v2 v3 v4 => some (Sum.inr (v0, v1, v2, v3, v4)))
def qu (N : Nat) {R : Type} (x143 : List (El uS1)) (x144 : List UInt8) (x145 : Int) (x146 : List (Int × Int)) (x147 : Int) (x148 : UInt8) (rec_ : (List (El uS1)) -> (List UInt8) -> (Int) -> (List (Int × Int)) -> (Int) -> (UInt8) -> Option R) (o0 : (List (El uS1)) -> (List UInt8) -> (Int) -> (List (Int × Int)) -> (Int) -> (UInt8) -> Option R) (o1 : (List (El uS1)) -> (List UInt8) -> (Int) -> (List (Int × Int)) -> (Int) -> (UInt8) -> Option R) : Option R :=
 (cond (inb 0 (List.length x143)) (Option.bind (za N ([4] : List Int) (nth uS1 x143 0).1) fun y153 => (cond (!y153.1) (o0 x143 x144 x145 x146 x147 x148) (cond (zW 1 x143 && true) (Option.bind (jq N (nth uS1 x143 0).2.1) fun y154 => (cond (!y154.2.1) (o0 (ze x143 1) x144 x145 x146 x147 x148) (cond (inb 0 (List.length (ze x143 1))) (cond ((nth uS1 (ze x143 1) 0).1 == (3 : Int)) (o1 (ze x143 1) x144 x145 x146 (kU .or .i64 x147 y154.1) x148) (cond (inb 0 (List.length (ze x143 1))) (Option.bind (za N ([1] : List Int) (nth uS1 (ze x143 1) 0).1) fun y155 => (cond (!y155.1) (o0 (ze x143 1) x144 x145 x146 (kU .or .i64 x147 y154.1) x148) (cond (zW 1 (ze x143 1) && true) (rec_ (ze (ze x143 1) 1) x144 x145 x146 (kU .or .i64 x147 y154.1) x148) none))) none)) none))) none))) none)
def zz (N : Nat) : Nat -> (List (El uS1)) -> (List UInt8) -> (Int) -> (List (Int × Int)) -> (Int) -> (UInt8) -> Option (((List (El uS1)) × (List UInt8) × (Int) × (List (Int × Int)) × (Int) × (UInt8)) ⊕ ((List (El uS1)) × (List UInt8) × (Int) × (List (Int × Int)) × (Int) × (UInt8)))
 | 0, _, _, _, _, _, _ => none
 | m + 1, x143, x144, x145, x146, x147, x148 => qu N x143 x144 x145 x146 x147 x148 (zz N m) (fun v0 v1 v2 v3 v4 v5 => some (Sum.inl (v0, v1, v2, v3, v4, v5))) (fun v0 v1 v2 v3 v4 v5 => some (Sum.inr (v0, v1, v2, v3, v4, v5)))
def qo (N : Nat) {R : Type} (x179 : List (El uS1)) (x180 : List UInt8) (x181 : Int) (x182 : List (Int × Int)) (x183 : Int) (x184 : Bool) (x185 : UInt8) (rec_ : (List (El uS1)) -> (List UInt8) -> (Int) -> (List (Int × Int)) -> (Int) -> (Bool) -> (UInt8) -> Option R) (o0 : (List (El uS1)) -> (List UInt8) -> (Int) -> (List (Int × Int)) -> (Int) -> (Bool) -> (UInt8) -> Option R) (o1 : (List (El uS1)) -> (List UInt8) -> (Int) -> (List (Int × Int)) -> (Int) -> (Bool) -> (UInt8) -> Option R) : Option R :=
 (cond (inb 0 (List.length x179)) (Option.bind (za N ([4] : List Int) (nth uS1 x179 0).1) fun y190 => (cond (!y190.1) (o0 x179 x180 x181 x182 x183 x184 x185) (cond (zW 1 x179 && true) (cond (decide (List.length ([40] : List UInt8) + List.length (nth uS1 x179 0).2.1 < 4611686018427387904)) (cond (decide (List.length (([40] : List UInt8) ++ (nth uS1 x179 0).2.1) + List.length ([41] : List UInt8) < 4611686018427387904)) (Option.bind (jA N ((([40] : List UInt8) ++ (nth uS1 x179 0).2.1) ++ ([41] : List UInt8))) fun y191 => (cond y191.2.1 (cond (!((nth uS1 x179 0).2.1 != ([] : List UInt8))) (o0 (ze x179 1) x180 x181 x182 x183 x184 x185) (cond (inb 0 (List.length (ze x179 1))) (cond ((nth uS1 (ze x179 1) 0).1 == (3 : Int)) (o1 (ze x179 1) x180 x181 x182 x183 x184 (x185 ||| y191.1)) (cond (inb 0 (List.length (ze x179 1))) (Option.bind (za N ([1] : List Int) (nth uS1 (ze x179 1) 0).1) fun y192 => (cond (!y192.1) (o0 (ze x179 1) x180 x181 x182 x183 x184 (x185 ||| y191.1)) (cond (zW 1 (ze x179 1) && true) (rec_ (ze (ze x179 1) 1) x180 x181 x182 x183 x184 (x185 ||| y191.1)) none))) none)) none)) (o0 (ze x179 1) x180 x181 x182 x183 x184 x185))) none) none) none))) none)
def zy (N : Nat) : Nat -> (List (El uS1)) -> (List UInt8) -> (Int) -> (List (Int × Int)) -> (Int) -> (Bool) -> (UInt8) -> Option (((List (El uS1)) × (List UInt8) × (Int) × (List (Int × Int)) × (Int) × (Bool) × (UInt8)) ⊕ ((List (El uS1)) × (List UInt8) × (Int) × (List (Int × Int)) × (Int) × (Bool) × (UInt8)))
 | 0, _, _, _, _, _, _, _ => none
 | m + 1, x179, x180, x181, x182, x183, x184, x185 => qo N x179 x180 x181 x182 x183 x184 x185 (zy N m) (fun v0 v1 v2 v3 v4 v5 v6 => some (Sum.inl (v0, v1, v2, v3, v4, v5, v6))) (fun v0 v1 v2 v3 v4 v5 v6 => some (Sum.inr (v0, v1, v2, v3, v4, v5, v6)))
def qq (N : Nat) {R : Type} (x208 : List (El uS1)) (x209 : List UInt8) (x210 : Int) (x211 : List (Int × Int)) (x212 : Int) (x213 : Bool) (x214 : UInt8) (rec_ : (List (El uS1)) -> (List UInt8) -> (Int) -> (List (Int × Int)) -> (Int) -> (Bool) -> (UInt8) -> Option R) (o0 : (List (El uS1)) -> (List UInt8) -> (Int) -> (List (Int × Int)) -> (Int) -> (Bool) -> (UInt8) -> Option R) (o1 : (List (El uS1)) -> (List UInt8) -> (Int) -> (List (Int × Int)) -> (Int) -> (Bool) -> (UInt8) -> Option R) : Option R :=
 (cond (inb 0 (List.length x208)) (Option.bind (za N ([4] : List Int) (nth uS1 x208 0).1) fun y219 => (cond (!y219.1) (o0 x208 x209 x210 x211 x212 x213 x214) (cond (zW 1 x208 && true) (cond (decide (List.length ([40] : List UInt8) + List.length (nth uS1 x208 0).2.1 < 4611686018427387904)) (cond (decide (List.length (([40] : List UInt8) ++ (nth uS1 x208 0).2.1) + List.length ([41] : List UInt8) < 4611686018427387904)) (Option.bind (jA N ((([40] : List UInt8) ++ (nth uS1 x208 0).2.1) ++ ([41] : List UInt8))) fun y220 => (cond y220.2.1 (cond (!((nth uS1 x208 0).2.1 != ([] : List UInt8))) (o0 (ze x208 1) x209 x210 x211 x212 x213 x214) (cond (inb 0 (List.length (ze x208 1))) (cond ((nth uS1 (ze x208 1) 0).1 == (0 : Int)) (o1 (ze x208 1) x209 x210 x211 x212 x213 (x214 ||| y220.1)) (cond (inb 0 (List.length (ze x208 1))) (Option.bind (za N ([1] : List Int) (nth uS1 (ze x208 1) 0).1) fun y221 => (cond (!y221.1) (o0 (ze x208 1) x209 x210 x211 x212 x213 (x214 ||| y220.1)) (cond (zW 1 (ze x208 1) && true) (rec_ (ze (ze x208 1) 1) x209 x210 x211 x212 x213 (x214 ||| y220.1)) none))) none)) none)) (o0 (ze x208 1) x209 x210 x211 x212 x213 x214))) none) none) none))) none)
def zB (N : Nat) : Nat -> (List (El uS1)) -> (List UInt8) -> (Int) -> (List (Int × Int)) -> (Int) -> (Bool) -> (UInt8) -> Option (((List (El uS1)) × (List UInt8) × (Int) × (List (Int × Int)) × (Int) × (Bool) × (UInt8)) ⊕ ((List (El uS1)) × (List UInt8) × (Int) × (List (Int × Int)) × (Int) × (Bool) × (UInt8)))
 | 0, _, _, _, _, _, _, _ => none
 | m + 1, x208, x209, x210, x211, x212, x213, x214 => qq N x208 x209 x210 x211 x212 x213 x214 (zB N m) (fun v0 v1 v2 v3 v4 v5 v6 => some (Sum.inl (v0, v1, v2, v3, v4, v5, v6))) (fun v0 v1 v2 v3 v4 v5 v6 => some (Sum.inr (v0, v1, v2, v3, v4, v5, v6)))
def B1 (N : Nat) (tag : List UInt8) (kd : Int) (l : List (El uS1)) : Option ((El uS2) × Bool × Unit) :=
 (cond (inb (0 : Int) (List.length l)) (Option.bind (za N ([(0 : Int)] : List Int) (nth uS1 l 0).1) fun y5 => (cond (!y5.1) (some ((tag, ((0 : Int), (([] : List UInt8), (([] : List (Int × Int)), ((0 : Int), ((0 : Int), (false, ((0 : UInt8), ([] : List UInt8))))))))), false, ())) (cond (zW (1 : Int) l && true) (some ((tag, (kd, (([] : List UInt8), (([] : List (Int × Int)), ((0 : Int), ((0 : Int), (false, ((0 : UInt8), ([] : List UInt8))))))))), true, ())) none))) none)
def E5 (N : Nat) (tag : List UInt8) (kd : Int) (mb : List UInt8) (q : List (El uS1)) : Option ((El uS2) × Bool × Unit) :=
 (cond (inb (0 : Int) (List.length q)) (Option.bind (za N ([(0 : Int)] : List Int) (nth uS1 q 0).1) fun y11 => (cond (!y11.1) (some ((tag, ((0 : Int), (([] : List UInt8), (([] : List (Int × Int)), ((0 : Int), ((0 : Int), (false, ((0 : UInt8), ([] : List UInt8))))))))), false, ())) (cond (zW (1 : Int) q && true) (some ((tag, (kd, (mb, (([] : List (Int × Int)), ((0 : Int), ((0 : Int), (false, ((0 : UInt8), ([] : List UInt8))))))))), true, ())) none))) none)
def B5 (N : Nat) (tag : List UInt8) (kd : Int) (l : List (El uS1)) : Option ((El uS2) × Bool × Unit) :=
 (cond (inb (0 : Int) (List.length l)) (Option.bind (za N ([(1 : Int)] : List Int) (nth uS1 l 0).1) fun y9 => (cond (!y9.1) (some ((tag, ((0 : Int), (([] : List UInt8), (([] : List (Int × Int)), ((0 : Int), ((0 : Int), (false, ((0 : UInt8), ([] : List UInt8))))))))), false, ())) (cond (zW (1 : Int) l && true) (cond (inb (0 : Int) (List.length (ze l 1))) (cond (inb (0 : Int) (List.length (ze l 1))) (Option.bind (za N ([(4 : Int), (5 : Int), (6 : Int)] : List Int) (nth uS1 (ze l 1) 0).1) fun y10 => (cond (!y10.1) (some ((tag, ((0 : Int), (([] : List UInt8), (([] : List (Int × Int)), ((0 : Int), ((0 : Int), (false, ((0 : UInt8), ([] : List UInt8))))))))), false, ())) (cond (zW (1 : Int) (ze l 1) && true) (cond ((nth uS1 (ze l 1) 0).1 != (4 : Int)) (E5 N tag kd (nth uS1 (ze l 1) 0).2.1 (ze (ze l 1) 1)) (cond ((nth uS1 (ze l 1) 0).2.1 != ([] : List UInt8)) (Option.bind (zY N N (nth uS1 (ze l 1) 0).2.1 (((List.length (nth uS1 (ze l 1) 0).2.1) : Nat) : Int) (0 : Int)) fun o26 => (zl o26 (fun a27 => (some ((tag, ((0 : Int), (([] : List UInt8), (([] : List (Int × Int)), ((0 : Int), ((0 : Int), (false, ((0 : UInt8), ([] : List UInt8))))))))), false, ()))) (fun b28 => (E5 N tag kd (nth uS1 (ze l 1) 0).2.1 (ze (ze l 1) 1))))) (some ((tag, ((0 : Int), (([] : List UInt8), (([] : List (Int × Int)), ((0 : Int), ((0 : Int), (false, ((0 : UInt8), ([] : List UInt8))))))))), false, ())))) none))) none) none) none))) none)
def G6 (N : Nat) (tag : List UInt8) (tag1 : List UInt8) (kd1 : Int) (mb1 : List UInt8) (f : UInt8) (l : List (El uS1)) : Option ((El uS2) × Bool × Unit) :=
 (cond (inb (0 : Int) (List.length l)) (Option.bind (za N ([(3 : Int)] : List Int) (nth uS1 l 0).1) fun y55 => (cond (!y55.1) (some ((tag, ((0 : Int), (([] : List UInt8), (([] : List (Int × Int)), ((0 : Int), ((0 : Int), (false, ((0 : UInt8), ([] : List UInt8))))))))), false, ())) (cond (zW (1 : Int) l && true) (cond (inb (0 : Int) (List.length (ze l 1))) (Option.bind (za N ([(1 : Int)] : List Int) (nth uS1 (ze l 1) 0).1) fun y56 => (cond (!y56.1) (some ((tag, ((0 : Int), (([] : List UInt8), (([] : List (Int × Int)), ((0 : Int), ((0 : Int), (false, ((0 : UInt8), ([] : List UInt8))))))))), false, ())) (cond (zW (1 : Int) (ze l 1) && true) (cond (inb (0 : Int) (List.length (ze (ze l 1) 1))) (Option.bind (za N ([(6 : Int)] : List Int) (nth uS1 (ze (ze l 1) 1) 0).1) fun y57 => (cond (!y57.1) (some ((tag, ((0 : Int), (([] : List UInt8), (([] : List (Int × Int)), ((0 : Int), ((0 : Int), (false, ((0 : UInt8), ([] : List UInt8))))))))), false, ())) (cond (zW (1 : Int) (ze (ze l 1) 1) && true) (cond (Nat.blt (List.length (nth uS1 (ze (ze l 1) 1) 0).2.1) jd) (cond (inb (0 : Int) (List.length (ze (ze (ze l 1) 1) 1))) (Option.bind (za N ([(0 : Int)] : List Int) (nth uS1 (ze (ze (ze l 1) 1) 1) 0).1) fun y58 => (cond (!y58.1) (some ((tag, ((0 : Int), (([] : List UInt8), (([] : List (Int × Int)), ((0 : Int), ((0 : Int), (false, ((0 : UInt8), ([] : List UInt8))))))))), false, ())) (cond (zW (1 : Int) (ze (ze (ze l 1) 1) 1) && true) (some ((tag1, (kd1, (mb1, (([] : List (Int × Int)), ((0 : Int), ((0 : Int), (false, (f, (nth uS1 (ze (ze l 1) 1) 0).2.1)))))))), true, ())) none))) none) none) none))) none) none))) none) none))) none)
def D6 (N : Nat) (tag : List UInt8) (kd : Int) (mb : List UInt8) (r : List (El uS1)) : Option ((El uS2) × Bool × Unit) :=
 (cond (inb (0 : Int) (List.length r)) (cond ((nth uS1 r 0).1 == (2 : Int)) (cond (inb (0 : Int) (List.length r)) (Option.bind (za N ([(2 : Int)] : List Int) (nth uS1 r 0).1) fun y33 => (cond (!y33.1) (some ((tag, ((0 : Int), (([] : List UInt8), (([] : List (Int × Int)), ((0 : Int), ((0 : Int), (false, ((0 : UInt8), ([] : List UInt8))))))))), false, ())) (cond (zW (1 : Int) r && true) (cond (inb (0 : Int) (List.length (ze r 1))) (cond ((nth uS1 (ze r 1) 0).1 != (3 : Int)) (Option.bind (zA N N (ze r 1) tag kd mb (0 : UInt8)) fun o52 => (zl o52 (fun a53 => (some ((tag, ((0 : Int), (([] : List UInt8), (([] : List (Int × Int)), ((0 : Int), ((0 : Int), (false, ((0 : UInt8), ([] : List UInt8))))))))), false, ()))) (fun b54 => (G6 N tag b54.2.1 b54.2.2.1 b54.2.2.2.1 b54.2.2.2.2 b54.1)))) (G6 N tag tag kd mb (0 : UInt8) (ze r 1))) none) none))) none) (cond (inb (0 : Int) (List.length r)) (Option.bind (za N ([(6 : Int)] : List Int) (nth uS1 r 0).1) fun y63 => (cond (!y63.1) (some ((tag, ((0 : Int), (([] : List UInt8), (([] : List (Int × Int)), ((0 : Int), ((0 : Int), (false, ((0 : UInt8), ([] : List UInt8))))))))), false, ())) (cond (zW (1 : Int) r && true) (cond (Nat.blt (List.length (nth uS1 r 0).2.1) jd) (cond (inb (0 : Int) (List.length (ze r 1))) (Option.bind (za N ([(0 : Int)] : List Int) (nth uS1 (ze r 1) 0).1) fun y64 => (cond (!y64.1) (some ((tag, ((0 : Int), (([] : List UInt8), (([] : List (Int × Int)), ((0 : Int), ((0 : Int), (false, ((0 : UInt8), ([] : List UInt8))))))))), false, ())) (cond (zW (1 : Int) (ze r 1) && true) (some ((tag, (kd, (mb, (([] : List (Int × Int)), ((0 : Int), ((0 : Int), (false, ((0 : UInt8), (nth uS1 r 0).2.1)))))))), true, ())) none))) none) none) none))) none)) none)
def C6 (N : Nat) (tag : List UInt8) (kd : Int) (mb : List UInt8) (q : List (El uS1)) : Option ((El uS2) × Bool × Unit) :=
 (cond (inb (0 : Int) (List.length q)) (Option.bind (za N ([(1 : Int)] : List Int) (nth uS1 q 0).1) fun y32 => (cond (!y32.1) (some ((tag, ((0 : Int), (([] : List UInt8), (([] : List (Int × Int)), ((0 : Int), ((0 : Int), (false, ((0 : UInt8), ([] : List UInt8))))))))), false, ())) (cond (zW (1 : Int) q && true) (D6 N tag kd mb (ze q 1)) none))) none)
def B6 (N : Nat) (tag : List UInt8) (kd : Int) (l : List (El uS1)) : Option ((El uS2) × Bool × Unit) :=
 (cond (inb (0 : Int) (List.length l)) (Option.bind (za N ([(1 : Int)] : List Int) (nth uS1 l 0).1) fun y30 => (cond (!y30.1) (some ((tag, ((0 : Int), (([] : List UInt8), (([] : List (Int × Int)), ((0 : Int), ((0 : Int), (false, ((0 : UInt8), ([] : List UInt8))))))))), false, ())) (cond (zW (1 : Int) l && true) (cond (inb (0 : Int) (List.length (ze l 1))) (cond (inb (0 : Int) (List.length (ze l 1))) (Option.bind (za N ([(4 : Int), (5 : Int), (6 : Int)] : List Int) (nth uS1 (ze l 1) 0).1) fun y31 => (cond (!y31.1) (some ((tag, ((0 : Int), (([] : List UInt8), (([] : List (Int × Int)), ((0 : Int), ((0 : Int), (false, ((0 : UInt8), ([] : List UInt8))))))))), false, ())) (cond (zW (1 : Int) (ze l 1) && true) (cond ((nth uS1 (ze l 1) 0).1 != (4 : Int)) (C6 N tag kd (nth uS1 (ze l 1) 0).2.1 (ze (ze l 1) 1)) (cond ((nth uS1 (ze l 1) 0).2.1 != ([] : List UInt8)) (Option.bind (zZ N N (nth uS1 (ze l 1) 0).2.1 (((List.length (nth uS1 (ze l 1) 0).2.1) : Nat) : Int) (0 : Int)) fun o79 => (zl o79 (fun a80 => (some ((tag, ((0 : Int), (([] : List UInt8), (([] : List (Int × Int)), ((0 : Int), ((0 : Int), (false, ((0 : UInt8), ([] : List UInt8))))))))), false, ()))) (fun b81 => (C6 N tag kd (nth uS1 (ze l 1) 0).2.1 (ze (ze l 1) 1))))) (some ((tag, ((0 : Int), (([] : List UInt8), (([] : List (Int × Int)), ((0 : Int), ((0 : Int), (false, ((0 : UInt8), ([] : List UInt8))))))))), false, ())))) none))) none) none) none))) none)
def D7 (N : Nat) (tag : List UInt8) (kd : Int) (st : List (Int × Int)) (r : List (El uS1)) : Option ((El uS2) × Bool × Unit) :=
 (cond (inb (0 : Int) (List.length r)) (cond ((nth uS1 r 0).1 != (2 : Int)) (cond (inb (0 : Int) (List.length r)) (Option.bind (za N ([(4 : Int)] : List Int) (nth uS1 r 0).1) fun y119 => (cond (!y119.1) (some ((tag, ((0 : Int), (([] : List UInt8), (([] : List (Int × Int)), ((0 : Int), ((0 : Int), (false, ((0 : UInt8), ([] : List UInt8))))))))), false, ())) (cond (zW (1 : Int) r && true) (Option.bind (jq N (nth uS1 r 0).2.1) fun y120 => (cond (!y120.2.1) (some ((tag, ((0 : Int), (([] : List UInt8), (([] : List (Int × Int)), ((0 : Int), ((0 : Int), (false, ((0 : UInt8), ([] : List UInt8))))))))), false, ())) (cond (inb (0 : Int) (List.length (ze r 1))) (Option.bind (za N ([(0 : Int)] : List Int) (nth uS1 (ze r 1) 0).1) fun y121 => (cond (!y121.1) (some ((tag, ((0 : Int), (([] : List UInt8), (([] : List (Int × Int)), ((0 : Int), ((0 : Int), (false, ((0 : UInt8), ([] : List UInt8))))))))), false, ())) (cond (zW (1 : Int) (ze r 1) && true) (some ((tag, (kd, (([] : List UInt8), (st, ((kU .or .i64 (0 : Int) y120.1), ((0 : Int), (false, ((0 : UInt8), ([] : List UInt8))))))))), true, ())) none))) none))) none))) none) (cond (inb (0 : Int) (List.length r)) (Option.bind (za N ([(2 : Int)] : List Int) (nth uS1 r 0).1) fun y122 => (cond (!y122.1) (some ((tag, ((0 : Int), (([] : List UInt8), (([] : List (Int × Int)), ((0 : Int), ((0 : Int), (false, ((0 : UInt8), ([] : List UInt8))))))))), false, ())) (cond (zW (1 : Int) r && true) (Option.bind (zz N N (ze r 1) tag kd st (0 : Int) (0 : UInt8)) fun o150 => (zl o150 (fun a151 => (some ((tag, ((0 : Int), (([] : List UInt8), (([] : List (Int × Int)), ((0 : Int), ((0 : Int), (false, ((0 : UInt8), ([] : List UInt8))))))))), false, ()))) (fun b152 => (cond (inb (0 : Int) (List.length b152.1)) (Option.bind (za N ([(3 : Int)] : List Int) (nth uS1 b152.1 0).1) fun y153 => (cond (!y153.1) (some ((tag, ((0 : Int), (([] : List UInt8), (([] : List (Int × Int)), ((0 : Int), ((0 : Int), (false, ((0 : UInt8), ([] : List UInt8))))))))), false, ())) (cond (zW (1 : Int) b152.1 && true) (cond (inb (0 : Int) (List.length (ze b152.1 1))) (Option.bind (za N ([(0 : Int)] : List Int) (nth uS1 (ze b152.1 1) 0).1) fun y154 => (cond (!y154.1) (some ((tag, ((0 : Int), (([] : List UInt8), (([] : List (Int × Int)), ((0 : Int), ((0 : Int), (false, ((0 : UInt8), ([] : List UInt8))))))))), false, ())) (cond (zW (1 : Int) (ze b152.1 1) && true) (some ((b152.2.1, (b152.2.2.1, (([] : List UInt8), (b152.2.2.2.1, (b152.2.2.2.2.1, ((0 : Int), (false, (b152.2.2.2.2.2, ([] : List UInt8))))))))), true, ())) none))) none) none))) none)))) none))) none)) none)
def B7 (N : Nat) (tag : List UInt8) (kd : Int) (l : List (El uS1)) : Option ((El uS2) × Bool × Unit) :=
 (cond (inb (0 : Int) (List.length l)) (Option.bind (za N ([(1 : Int)] : List Int) (nth uS1 l 0).1) fun y115 => (cond (!y115.1) (some ((tag, ((0 : Int), (([] : List UInt8), (([] : List (Int × Int)), ((0 : Int), ((0 : Int), (false, ((0 : UInt8), ([] : List UInt8))))))))), false, ())) (cond (zW (1 : Int) l && true) (cond (inb (0 : Int) (List.length (ze l 1))) (Option.bind (za N ([(4 : Int)] : List Int) (nth uS1 (ze l 1) 0).1) fun y116 => (cond (!y116.1) (some ((tag, ((0 : Int), (([] : List UInt8), (([] : List (Int × Int)), ((0 : Int), ((0 : Int), (false, ((0 : UInt8), ([] : List UInt8))))))))), false, ())) (cond (zW (1 : Int) (ze l 1) && true) (Option.bind (jo N (nth uS1 (ze l 1) 0).2.1) fun y117 => (cond (!y117.2.1) (some ((tag, ((0 : Int), (([] : List UInt8), (([] : List (Int × Int)), ((0 : Int), ((0 : Int), (false, ((0 : UInt8), ([] : List UInt8))))))))), false, ())) (cond (inb (0 : Int) (List.length (ze (ze l 1) 1))) (Option.bind (za N ([(1 : Int)] : List Int) (nth uS1 (ze (ze l 1) 1) 0).1) fun y118 => (cond (!y118.1) (some ((tag, ((0 : Int), (([] : List UInt8), (([] : List (Int × Int)), ((0 : Int), ((0 : Int), (false, ((0 : UInt8), ([] : List UInt8))))))))), false, ())) (cond (zW (1 : Int) (ze (ze l 1) 1) && true) (D7 N tag kd y117.1 (ze (ze (ze l 1) 1) 1)) none))) none))) none))) none) none))) none)
def G8 (N : Nat) (tag : List UInt8) (tag1 : List UInt8) (kd1 : Int) (st1 : List (Int × Int)) (md1 : Int) (sl1 : Bool) (f : UInt8) (l : List (El uS1)) : Option ((El uS2) × Bool × Unit) :=
 (cond (inb (0 : Int) (List.length l)) (Option.bind (za N ([(3 : Int)] : List Int) (nth uS1 l 0).1) fun y188 => (cond (!y188.1) (some ((tag, ((0 : Int), (([] : List UInt8), (([] : List (Int × Int)), ((0 : Int), ((0 : Int), (false, ((0 : UInt8), ([] : List UInt8))))))))), false, ())) (cond (zW (1 : Int) l && true) (cond (inb (0 : Int) (List.length (ze l 1))) (Option.bind (za N ([(0 : Int)] : List Int) (nth uS1 (ze l 1) 0).1) fun y189 => (cond (!y189.1) (some ((tag, ((0 : Int), (([] : List UInt8), (([] : List (Int × Int)), ((0 : Int), ((0 : Int), (false, ((0 : UInt8), ([] : List UInt8))))))))), false, ())) (cond (zW (1 : Int) (ze l 1) && true) (some ((tag1, (kd1, (([] : List UInt8), (st1, ((0 : Int), (md1, (sl1, (f, ([] : List UInt8))))))))), true, ())) none))) none) none))) none)
def D8 (N : Nat) (tag : List UInt8) (kd : Int) (st : List (Int × Int)) (md : Int) (sl : Bool) (r : List (El uS1)) : Option ((El uS2) × Bool × Unit) :=
 (cond (inb (0 : Int) (List.length r)) (cond ((nth uS1 r 0).1 == (2 : Int)) (cond (inb (0 : Int) (List.length r)) (Option.bind (za N ([(2 : Int)] : List Int) (nth uS1 r 0).1) fun y164 => (cond (!y164.1) (some ((tag, ((0 : Int), (([] : List UInt8), (([] : List (Int × Int)), ((0 : Int), ((0 : Int), (false, ((0 : UInt8), ([] : List UInt8))))))))), false, ())) (cond (zW (1 : Int) r && true) (cond (inb (0 : Int) (List.length (ze r 1))) (cond ((nth uS1 (ze r 1) 0).1 != (3 : Int)) (Option.bind (zy N N (ze r 1) tag kd st md sl (0 : UInt8)) fun o185 => (zl o185 (fun a186 => (some ((tag, ((0 : Int), (([] : List UInt8), (([] : List (Int × Int)), ((0 : Int), ((0 : Int), (false, ((0 : UInt8), ([] : List UInt8))))))))), false, ()))) (fun b187 => (G8 N tag b187.2.1 b187.2.2.1 b187.2.2.2.1 b187.2.2.2.2.1 b187.2.2.2.2.2.1 b187.2.2.2.2.2.2 b187.1)))) (G8 N tag tag kd st md sl (0 : UInt8) (ze r 1))) none) none))) none) (Option.bind (zB N N r tag kd st md sl (0 : UInt8)) fun o212 => (zl o212 (fun a213 => (some ((tag, ((0 : Int), (([] : List UInt8), (([] : List (Int × Int)), ((0 : Int), ((0 : Int), (false, ((0 : UInt8), ([] : List UInt8))))))))), false, ()))) (fun b214 => (cond (inb (0 : Int) (List.length b214.1)) (Option.bind (za N ([(0 : Int)] : List Int) (nth uS1 b214.1 0).1) fun y215 => (cond (!y215.1) (some ((tag, ((0 : Int), (([] : List UInt8), (([] : List (Int × Int)), ((0 : Int), ((0 : Int), (false, ((0 : UInt8), ([] : List UInt8))))))))), false, ())) (cond (zW (1 : Int) b214.1 && true) (some ((b214.2.1, (b214.2.2.1, (([] : List UInt8), (b214.2.2.2.1, ((0 : Int), (b214.2.2.2.2.1, (b214.2.2.2.2.2.1, (b214.2.2.2.2.2.2, ([] : List UInt8))))))))), true, ())) none))) none))))) none)
def B8 (N : Nat) (tag : List UInt8) (kd : Int) (l : List (El uS1)) : Option ((El uS2) × Bool × Unit) :=
 (cond (inb (0 : Int) (List.length l)) (Option.bind (za N ([(1 : Int)] : List Int) (nth uS1 l 0).1) fun y155 => (cond (!y155.1) (some ((tag, ((0 : Int), (([] : List UInt8), (([] : List (Int × Int)), ((0 : Int), ((0 : Int), (false, ((0 : UInt8), ([] : List UInt8))))))))), false, ())) (cond (zW (1 : Int) l && true) (cond (inb (0 : Int) (List.length (ze l 1))) (Option.bind (za N ([(4 : Int)] : List Int) (nth uS1 (ze l 1) 0).1) fun y156 => (cond (!y156.1) (some ((tag, ((0 : Int), (([] : List UInt8), (([] : List (Int × Int)), ((0 : Int), ((0 : Int), (false, ((0 : UInt8), ([] : List UInt8))))))))), false, ())) (cond (zW (1 : Int) (ze l 1) && true) (Option.bind (jo N (nth uS1 (ze l 1) 0).2.1) fun y157 => (cond (!y157.2.1) (some ((tag, ((0 : Int), (([] : List UInt8), (([] : List (Int × Int)), ((0 : Int), ((0 : Int), (false, ((0 : UInt8), ([] : List UInt8))))))))), false, ())) (cond (inb (0 : Int) (List.length (ze (ze l 1) 1))) (Option.bind (za N ([(1 : Int)] : List Int) (nth uS1 (ze (ze l 1) 1) 0).1) fun y158 => (cond (!y158.1) (some ((tag, ((0 : Int), (([] : List UInt8), (([] : List (Int × Int)), ((0 : Int), ((0 : Int), (false, ((0 : UInt8), ([] : List UInt8))))))))), false, ())) (cond (zW (1 : Int) (ze (ze l 1) 1) && true) (cond (inb (0 : Int) (List.length (ze (ze (ze l 1) 1) 1))) (Option.bind (za N ([(4 : Int)] : List Int) (nth uS1 (ze (ze (ze l 1) 1) 1) 0).1) fun y159 => (cond (!y159.1) (some ((tag, ((0 : Int), (([] : List UInt8), (([] : List (Int × Int)), ((0 : Int), ((0 : Int), (false, ((0 : UInt8), ([] : List UInt8))))))))), false, ())) (cond (zW (1 : Int) (ze (ze (ze l 1) 1) 1) && true) (Option.bind (qZ N (nth uS1 (ze (ze (ze l 1) 1) 1) 0).2.1) fun y160 => (Option.bind (zQ N y160.1 ([46, 83, 73, 76, 69, 78, 84] : List UInt8)) fun y161 => (Option.bind (zp N ([([70, 76, 65, 71, 83] : List UInt8), ([43, 70, 76, 65, 71, 83] : List UInt8), ([45, 70, 76, 65, 71, 83] : List UInt8)] : List (List UInt8)) y161.1) fun y162 => (cond (!(decide ((0 : Int) <= y162.1))) (some ((tag, ((0 : Int), (([] : List UInt8), (([] : List (Int × Int)), ((0 : Int), ((0 : Int), (false, ((0 : UInt8), ([] : List UInt8))))))))), false, ())) (cond (inb (0 : Int) (List.length (ze (ze (ze (ze l 1) 1) 1) 1))) (Option.bind (za N ([(1 : Int)] : List Int) (nth uS1 (ze (ze (ze (ze l 1) 1) 1) 1) 0).1) fun y163 => (cond (!y163.1) (some ((tag, ((0 : Int), (([] : List UInt8), (([] : List (Int × Int)), ((0 : Int), ((0 : Int), (false, ((0 : UInt8), ([] : List UInt8))))))))), false, ())) (cond (zW (1 : Int) (ze (ze (ze (ze l 1) 1) 1) 1) && true) (D8 N tag kd y157.1 y162.1 y161.2.1 (ze (ze (ze (ze (ze l 1) 1) 1) 1) 1)) none))) none))))) none))) none) none))) none))) none))) none) none))) none)
def wx (N : Nat) (p0 : (List UInt8)) : Option ((El uS2) × Bool × Unit) :=
 (Option.bind (qL N p0) fun y1 => (cond (!y1.2.2.1) (some ((y1.1, ((0 : Int), (([] : List UInt8), (([] : List (Int × Int)), ((0 : Int), ((0 : Int), (false, ((0 : UInt8), ([] : List UInt8))))))))), false, ())) (cond (zW y1.2.1 p0 && true) (Option.bind (kf N (ze p0 (Int.toNat y1.2.1))) fun y2 => (cond (!(decide (y2.2.1 < (0 : Int)))) (some ((y1.1, ((0 : Int), (([] : List UInt8), (([] : List (Int × Int)), ((0 : Int), ((0 : Int), (false, ((0 : UInt8), ([] : List UInt8))))))))), false, ())) (cond (inb (0 : Int) (List.length y2.1)) (Option.bind (za N ([(4 : Int)] : List Int) (nth uS1 y2.1 0).1) fun y3 => (cond (!y3.1) (some ((y1.1, ((0 : Int), (([] : List UInt8), (([] : List (Int × Int)), ((0 : Int), ((0 : Int), (false, ((0 : UInt8), ([] : List UInt8))))))))), false, ())) (cond (zW (1 : Int) y2.1 && true) (Option.bind (jO N (nth uS1 y2.1 0).2.1) fun y4 => (cond (!y4.2.1) (some ((y1.1, ((0 : Int), (([] : List UInt8), (([] : List (Int × Int)), ((0 : Int), ((0 : Int), (false, ((0 : UInt8), ([] : List UInt8))))))))), false, ())) (cond (y4.1 == (1 : Int)) (B1 N y1.1 y4.1 (ze y2.1 1)) (cond (y4.1 == (2 : Int)) (B1 N y1.1 y4.1 (ze y2.1 1)) (cond (y4.1 == (3 : Int)) (B1 N y1.1 y4.1 (ze y2.1 1)) (cond (y4.1 == (4 : Int)) (B1 N y1.1 y4.1 (ze y2.1 1)) (cond (y4.1 == (5 : Int)) (B5 N y1.1 y4.1 (ze y2.1 1)) (cond (y4.1 == (6 : Int)) (B6 N y1.1 y4.1 (ze y2.1 1)) (cond (y4.1 == (7 : Int)) (B7 N y1.1 y4.1 (ze y2.1 1)) (cond (y4.1 == (8 : Int)) (B8 N y1.1 y4.1 (ze y2.1 1)) none)))))))))) none))) none))) none)))
def j4 (N : Nat) (p0 : UInt8) : Option (Bool × Unit) :=
 (cond (p0 == 40) (cond (p0 == 40) (some (false, ())) (cond (decide (32 < p0)) (some ((decide (p0 < 127)), ())) (some (false, ())))) (cond (p0 == 41) (cond (p0 == 41) (some (false, ())) (cond (decide (32 < p0)) (some ((decide (p0 < 127)), ())) (some (false, ())))) (cond (p0 == 123) (cond (p0 == 123) (some (false, ())) (cond (decide (32 < p0)) (some ((decide (p0 < 127)), ())) (some (false, ())))) (cond (p0 == 37) (cond (p0 == 37) (some (false, ())) (cond (decide (32 < p0)) (some ((decide (p0 < 127)), ())) (some (false, ())))) (cond (p0 == 42) (cond (p0 == 42) (some (false, ())) (cond (decide (32 < p0)) (some ((decide (p0 < 127)), ())) (some (false, ())))) (cond (p0 == 34) (cond (p0 == 34) (some (false, ())) (cond (decide (32 < p0)) (some ((decide (p0 < 127)), ())) (some (false, ())))) (cond (p0 == 92) (cond (p0 == 92) (some (false, ())) (cond (decide (32 < p0)) (some ((decide (p0 < 127)), ())) (some (false, ())))) (cond (p0 == 93) (some (false, ())) (cond (decide (32 < p0)) (some ((decide (p0 < 127)), ())) (some (false, ())))))))))))
def xG (N : Nat) (p0 : UInt8) : Option (Bool × Unit) :=
 (Option.bind (j4 N p0) fun y1 => (cond y1.1 (cond (p0 != 43) (some (true, ())) (some ((p0 == 93), ()))) (some ((p0 == 93), ()))))
def zbl (N : Nat) {R : Type} (x3 : List UInt8) (x4 : Int) (rec_ : (List UInt8) -> (Int) -> Option R) (o0 : (List UInt8) -> (Int) -> Option R) : Option R :=
 (cond (decide (x4 < (((List.length x3) : Nat) : Int))) (cond (inb x4 (List.length x3)) (Option.bind (xG N (nth .u8 x3 (Int.toNat x4))) fun y7 => (cond y7.1 (rec_ x3 (IntKind.wrap .i64 (x4 + 1))) (o0 x3 x4))) none) (o0 x3 x4))
def jn (N : Nat) : Nat -> (List UInt8) -> (Int) -> Option ((List UInt8) × (Int))
 | 0, _, _ => none
 | m + 1, x3, x4 => zbl N x3 x4 (jn N m) (fun v0 v1 => some (v0, v1))
def wL (N : Nat) (p0 : (List UInt8)) : Option ((List UInt8) × Int × Bool × Unit) :=
 (Option.bind (jn N N p0 0) fun o8 => (cond (o8.2 == 0) (some ([], 0, false, ())) (cond (o8.2 == (((List.length o8.1) : Nat) : Int)) (some ([], 0, false, ())) (cond (inb o8.2 (List.length o8.1)) (cond ((nth .u8 o8.1 (Int.toNat o8.2)) != 32) (some ([], 0, false, ())) (cond ((js 0 o8.2 (List.length o8.1)) && true) (some ((slice o8.1 0 (Int.toNat o8.2)), (IntKind.wrap .i64 (o8.2 + 1)), true, ())) none)) none))))
def jC (N : Nat) (p0 : UInt8) : Option (Bool × Unit) :=
 (cond (decide (0 < p0)) (cond (decide (p0 < 128)) (cond (p0 != 10) (some ((p0 != 13), ())) (some (false, ()))) (some (false, ()))) (some (false, ())))
def j1 (N : Nat) {R : Type} (x12 : List UInt8) (x13 : Int) (x14 : List UInt8) (rec_ : (List UInt8) -> (Int) -> (List UInt8) -> Option R) (o0 : (List UInt8) -> Option R) (o1 : (List UInt8) -> (Int) -> (List UInt8) -> Option R) : Option R :=
 (cond (decide (x13 < (((List.length x12) : Nat) : Int))) (cond (inb x13 (List.length x12)) (cond ((nth .u8 x12 (Int.toNat x13)) != 34) (cond (inb x13 (List.length x12)) (cond ((nth .u8 x12 (Int.toNat x13)) == 92) (cond (decide ((((List.length x12) : Nat) : Int) <= (IntKind.wrap .i64 (x13 + 1)))) (o0 x14) (cond (inb (IntKind.wrap .i64 (x13 + 1)) (List.length x12)) (cond ((nth .u8 x12 (Int.toNat (IntKind.wrap .i64 (x13 + 1)))) != 34) (cond (inb (IntKind.wrap .i64 (x13 + 1)) (List.length x12)) (cond ((nth .u8 x12 (Int.toNat (IntKind.wrap .i64 (x13 + 1)))) != 92) (o0 x14) (cond (inb (IntKind.wrap .i64 (x13 + 1)) (List.length x12)) (Option.bind (jC N (nth .u8 x12 (Int.toNat (IntKind.wrap .i64 (x13 + 1))))) fun y19 => (cond (!y19.1) (o0 x14) (cond (inb (IntKind.wrap .i64 (x13 + 1)) (List.length x12)) (cond (Nat.blt ((List.length x14) + 1) jd) (rec_ x12 (IntKind.wrap .i64 ((IntKind.wrap .i64 (x13 + 1)) + 1)) (x14 ++ ([(nth .u8 x12 (Int.toNat (IntKind.wrap .i64 (x13 + 1))))] : List UInt8))) none) none))) none)) none) (cond (inb (IntKind.wrap .i64 (x13 + 1)) (List.length x12)) (Option.bind (jC N (nth .u8 x12 (Int.toNat (IntKind.wrap .i64 (x13 + 1))))) fun y20 => (cond (!y20.1) (o0 x14) (cond (inb (IntKind.wrap .i64 (x13 + 1)) (List.length x12)) (cond (Nat.blt ((List.length x14) + 1) jd) (rec_ x12 (IntKind.wrap .i64 ((IntKind.wrap .i64 (x13 + 1)) + 1)) (x14 ++ ([(nth .u8 x12 (Int.toNat (IntKind.wrap .i64 (x13 + 1))))] : List UInt8))) none) none))) none)) none)) (cond (inb x13 (List.length x12)) (Option.bind (jC N (nth .u8 x12 (Int.toNat x13))) fun y21 => (cond (!y21.1) (o0 x14) (cond (inb x13 (List.length x12)) (cond (Nat.blt ((List.length x14) + 1) jd) (rec_ x12 (IntKind.wrap .i64 (x13 + 1)) (x14 ++ ([(nth .u8 x12 (Int.toNat x13))] : List UInt8))) none) none))) none)) none) (o1 x12 x13 x14)) none) (o1 x12 x13 x14))
def zL (N : Nat) : Nat -> (List UInt8) -> (Int) -> (List UInt8) -> Option (((List UInt8)) ⊕ ((List UInt8) × (Int) × (List UInt8)))
 | 0, _, _, _ => none
 | m + 1, x12, x13, x14 => j1 N x12 x13 x14 (zL N m) (fun v0 => some (Sum.inl v0)) (fun v0 v1 v2 => some (Sum.inr (v0, v1, v2)))
def ju (N : Nat) (p0 : (List UInt8)) (p1 : Int) : Option ((List UInt8) × Int × Bool × Unit) :=
 (cond (decide (p1 < 0)) (some ([], 0, false, ())) (cond (decide ((((List.length p0) : Nat) : Int) <= p1)) (some ([], 0, false, ())) (cond (inb p1 (List.length p0)) (cond ((nth .u8 p0 (Int.toNat p1)) != 34) (some ([], 0, false, ())) (Option.bind (zL N N p0 (IntKind.wrap .i64 (p1 + 1)) []) fun o26 => (zl o26 (fun a27 => (some ([], 0, false, ()))) (fun b28 => (cond (decide ((((List.length b28.1) : Nat) : Int) <= b28.2.1)) (some ([], 0, false, ())) (some (b28.2.2, (IntKind.wrap .i64 (b28.2.1 + 1)), true, ()))))))) none)))
def kQ (N : Nat) {R : Type} (x2 : Int) (x3 : List UInt8) (rec_ : (Int) -> (List UInt8) -> Option R) (o0 : (Int) -> (List UInt8) -> Option R) : Option R :=
 (cond (decide ((10 : Int) <= x2)) (cond (js (Int.tmod x2 (10 : Int)) (IntKind.wrap .u32 ((Int.tmod x2 (10 : Int)) + (1 : Int))) 10) (cond (decide (List.length (slice ([48, 49, 50, 51, 52, 53, 54, 55, 56, 57] : List UInt8) (Int.toNat (Int.tmod x2 (10 : Int))) (Int.toNat (IntKind.wrap .u32 ((Int.tmod x2 (10 : Int)) + (1 : Int))))) + List.length x3 < 4611686018427387904)) (rec_ (IntKind.wrap .u32 (Int.tdiv x2 (10 : Int))) ((slice ([48, 49, 50, 51, 52, 53, 54, 55, 56, 57] : List UInt8) (Int.toNat (Int.tmod x2 (10 : Int))) (Int.toNat (IntKind.wrap .u32 ((Int.tmod x2 (10 : Int)) + (1 : Int))))) ++ x3)) none) none) (o0 x2 x3))
def qb (N : Nat) : Nat -> (Int) -> (List UInt8) -> Option ((Int) × (List UInt8))
 | 0, _, _ => none
 | m + 1, x2, x3 => kQ N x2 x3 (qb N m) (fun v0 v1 => some (v0, v1))
def wv (N : Nat) (p0 : Int) : Option ((List UInt8) × Unit) :=
 (Option.bind (qb N N p0 ([] : List UInt8)) fun o5 => (cond (js o5.1 (IntKind.wrap .u32 (o5.1 + 1)) 10) (cond (decide (List.length (slice ([48, 49, 50, 51, 52, 53, 54, 55, 56, 57] : List UInt8) (Int.toNat o5.1) (Int.toNat (IntKind.wrap .u32 (o5.1 + 1)))) + List.length o5.2 < 4611686018427387904)) (some (((slice ([48, 49, 50, 51, 52, 53, 54, 55, 56, 57] : List UInt8) (Int.toNat o5.1) (Int.toNat (IntKind.wrap .u32 (o5.1 + 1)))) ++ o5.2), ())) none) none))
def xi (N : Nat) {R : Type} (x2 : List UInt8) (x3 : Int) (x4 : Int) (rec_ : (List UInt8) -> (Int) -> (Int) -> Option R) (o0 : Unit -> Option R) (o1 : (List UInt8) -> (Int) -> Option R) : Option R :=
 (cond (decide (x4 < (((List.length x2) : Nat) : Int))) (cond (inb x4 (List.length x2)) (cond (decide ((nth .u8 x2 (Int.toNat x4)) < 48)) (o0 ()) (cond (inb x4 (List.length x2)) (cond (decide (57 < (nth .u8 x2 (Int.toNat x4)))) (o0 ()) (cond (inb x4 (List.length x2)) (rec_ x2 (IntKind.wrap .u64 ((IntKind.wrap .u64 (10 * x3)) + (IntKind.wrap .u64 ((UInt8.toNat ((nth .u8 x2 (Int.toNat x4)) - 48) : Nat) : Int)))) (IntKind.wrap .i64 (x4 + 1))) none)) none)) none) (o1 x2 x3))
def ql (N : Nat) : Nat -> (List UInt8) -> (Int) -> (Int) -> Option ((Unit) ⊕ ((List UInt8) × (Int)))
 | 0, _, _, _ => none
 | m + 1, x2, x3, x4 => xi N x2 x3 x4 (ql N m) (fun _ => some (Sum.inl ())) (fun v0 v1 => some (Sum.inr (v0, v1)))
def jQ (N : Nat) (p0 : (List UInt8)) : Option (Int × Bool × Unit) :=
 (cond (decide (10 < (((List.length p0) : Nat) : Int))) (some (0, false, ())) (Option.bind (ql N N p0 0 0) fun o10 => (zl o10 (fun a11 => (some (0, false, ()))) (fun b12 => (cond (decide (4294967295 < b12.2)) (some (0, false, ())) (Option.bind (wv N (IntKind.wrap .u32 b12.2)) fun y13 => (cond (y13.1 != b12.1) (some (0, false, ())) (some ((IntKind.wrap .u32 b12.2), true, ())))))))))
def wg (N : Nat) {R : Type} (x1 : List UInt8) (x2 : Int) (x3 : Int) (rec_ : (List UInt8) -> (Int) -> (Int) -> Option R) (o0 : (List UInt8) -> (Int) -> (Int) -> Option R) : Option R :=
 (cond (decide (x3 < (((List.length x1) : Nat) : Int))) (cond (inb x3 (List.length x1)) (cond ((nth .u8 x1 (Int.toNat x3)) != 125) (cond (decide ((IntKind.wrap .i64 (x3 - x2)) <= 12)) (rec_ x1 x2 (IntKind.wrap .i64 (x3 + 1))) (o0 x1 x2 x3)) (o0 x1 x2 x3)) none) (o0 x1 x2 x3))
def zN (N : Nat) : Nat -> (List UInt8) -> (Int) -> (Int) -> Option ((List UInt8) × (Int) × (Int))
 | 0, _, _, _ => none
 | m + 1, x1, x2, x3 => wg N x1 x2 x3 (zN N m) (fun v0 v1 v2 => some (v0, v1, v2))
def jb (N : Nat) (p0 : (List UInt8)) (p1 : Int) : Option ((List UInt8) × Int × Bool × Unit) :=
 (cond (decide (p1 < 0)) (some ([], 0, false, ())) (cond (decide ((((List.length p0) : Nat) : Int) <= p1)) (some ([], 0, false, ())) (cond (inb p1 (List.length p0)) (cond ((nth .u8 p0 (Int.toNat p1)) != 123) (some ([], 0, false, ())) (Option.bind (zN N N p0 p1 (IntKind.wrap .i64 (p1 + 1))) fun o5 => (cond (decide ((((List.length o5.1) : Nat) : Int) <= o5.2.2)) (some ([], 0, false, ())) (cond (inb o5.2.2 (List.length o5.1)) (cond ((nth .u8 o5.1 (Int.toNat o5.2.2)) != 125) (some ([], 0, false, ())) (cond ((js (IntKind.wrap .i64 (o5.2.1 + 1)) o5.2.2 (List.length o5.1)) && true) (Option.bind (jQ N (slice o5.1 (Int.toNat (IntKind.wrap .i64 (o5.2.1 + 1))) (Int.toNat o5.2.2))) fun y6 => (cond (!y6.2.1) (some ([], 0, false, ())) (cond (decide (65536 < y6.1)) (some ([], 0, false, ())) (cond (decide ((((List.length o5.1) : Nat) : Int) < (IntKind.wrap .i64 (o5.2.2 + 3)))) (some ([], 0, false, ())) (cond (inb (IntKind.wrap .i64 (o5.2.2 + 1)) (List.length o5.1)) (cond ((nth .u8 o5.1 (Int.toNat (IntKind.wrap .i64 (o5.2.2 + 1)))) != 13) (some ([], 0, false, ())) (cond (inb (IntKind.wrap .i64 (o5.2.2 + 2)) (List.length o5.1)) (cond ((nth .u8 o5.1 (Int.toNat (IntKind.wrap .i64 (o5.2.2 + 2)))) != 10) (some ([], 0, false, ())) (cond (decide ((IntKind.wrap .i64 ((((List.length o5.1) : Nat) : Int) - (IntKind.wrap .i64 (o5.2.2 + 3)))) < (IntKind.wrap .i64 y6.1))) (some ([], 0, false, ())) (cond ((js (IntKind.wrap .i64 (o5.2.2 + 3)) (IntKind.wrap .i64 ((IntKind.wrap .i64 (o5.2.2 + 3)) + (IntKind.wrap .i64 y6.1))) (List.length o5.1)) && true) (cond (Nat.blt (0 + (List.length (slice o5.1 (Int.toNat (IntKind.wrap .i64 (o5.2.2 + 3))) (Int.toNat (IntKind.wrap .i64 ((IntKind.wrap .i64 (o5.2.2 + 3)) + (IntKind.wrap .i64 y6.1))))))) jd) (some (([] ++ (slice o5.1 (Int.toNat (IntKind.wrap .i64 (o5.2.2 + 3))) (Int.toNat (IntKind.wrap .i64 ((IntKind.wrap .i64 (o5.2.2 + 3)) + (IntKind.wrap .i64 y6.1)))))), (IntKind.wrap .i64 ((IntKind.wrap .i64 (o5.2.2 + 3)) + (IntKind.wrap .i64 y6.1))), true, ())) none) none))) none)) none))))) none)) none)))) none)))
def jl (N : Nat) (p0 : UInt8) : Option (Bool × Unit) :=
 (cond (decide (32 < p0)) (cond (decide (p0 < 127)) (cond (p0 != 40) (cond (p0 != 41) (cond (p0 != 34) (some ((p0 != 123), ())) (some (false, ()))) (some (false, ()))) (some (false, ()))) (some (false, ()))) (some (false, ())))
def zaW (N : Nat) {R : Type} (x3 : List UInt8) (x4 : Int) (x5 : Int) (rec_ : (List UInt8) -> (Int) -> (Int) -> Option R) (o0 : (List UInt8) -> (Int) -> (Int) -> Option R) : Option R :=
 (cond (decide (x5 < (((List.length x3) : Nat) : Int))) (cond (inb x5 (List.length x3)) (Option.bind (jl N (nth .u8 x3 (Int.toNat x5))) fun y8 => (cond y8.1 (rec_ x3 x4 (IntKind.wrap .i64 (x5 + 1))) (o0 x3 x4 x5))) none) (o0 x3 x4 x5))
def qP (N : Nat) : Nat -> (List UInt8) -> (Int) -> (Int) -> Option ((List UInt8) × (Int) × (Int))
 | 0, _, _, _ => none
 | m + 1, x3, x4, x5 => zaW N x3 x4 x5 (qP N m) (fun v0 v1 v2 => some (v0, v1, v2))
def kk (N : Nat) (p0 : (List UInt8)) (p1 : Int) : Option ((El uS1) × Int × Bool × Unit) :=
 (cond (p1 == (((List.length p0) : Nat) : Int)) (some ((0, ([], p1)), p1, true, ())) (cond (inb p1 (List.length p0)) (cond ((nth .u8 p0 (Int.toNat p1)) == 32) (some ((1, ([], p1)), (IntKind.wrap .i64 (p1 + 1)), true, ())) (cond ((nth .u8 p0 (Int.toNat p1)) == 40) (some ((2, ([], p1)), (IntKind.wrap .i64 (p1 + 1)), true, ())) (cond ((nth .u8 p0 (Int.toNat p1)) == 41) (some ((3, ([], p1)), (IntKind.wrap .i64 (p1 + 1)), true, ())) (cond ((nth .u8 p0 (Int.toNat p1)) == 34) (Option.bind (ju N p0 p1) fun y1 => (some ((5, (y1.1, p1)), y1.2.1, y1.2.2.1, ()))) (cond ((nth .u8 p0 (Int.toNat p1)) == 123) (Option.bind (jb N p0 p1) fun y2 => (some ((6, (y2.1, p1)), y2.2.1, y2.2.2.1, ()))) (Option.bind (qP N N p0 p1 p1) fun o9 => (cond ((js o9.2.1 o9.2.2 (List.length o9.1)) && true) (some ((4, ((slice o9.1 (Int.toNat o9.2.1) (Int.toNat o9.2.2)), p1)), o9.2.2, (decide (o9.2.1 < o9.2.2)), ())) none))))))) none))
def kP (N : Nat) {R : Type} (x10 : List UInt8) (x11 : Int) (x12 : List (El uS1)) (rec_ : (List UInt8) -> (Int) -> (List (El uS1)) -> Option R) (o0 : (Int) -> (List (El uS1)) -> Option R) (o1 : (List (El uS1)) -> Option R) : Option R :=
 (Option.bind (kk N x10 x11) fun y15 => (cond (!y15.2.2.1) (o0 x11 x12) (cond (Nat.blt ((List.length x12) + 1) jd) (cond (y15.1.1 == 0) (o1 (x12 ++ ([y15.1] : List (El uS1)))) (rec_ x10 y15.2.1 (x12 ++ ([y15.1] : List (El uS1))))) none)))
def zK (N : Nat) : Nat -> (List UInt8) -> (Int) -> (List (El uS1)) -> Option (((Int) × (List (El uS1))) ⊕ ((List (El uS1))))
 | 0, _, _, _ => none
 | m + 1, x10, x11, x12 => kP N x10 x11 x12 (zK N m) (fun v0 v1 => some (Sum.inl (v0, v1))) (fun v0 => some (Sum.inr v0))
def wW (N : Nat) (p0 : (List UInt8)) : Option ((List (El uS1)) × Int × Unit) :=
 (Option.bind (zK N N p0 0 []) fun o20 => (zl o20 (fun a21 => (some ([], a21.1, ()))) (fun b22 => (some (b22, (-1), ())))))
def zev (N : Nat) (p0 : Int) : Option ((List UInt8) × Unit) :=
 (cond (decide (p0 < 1)) (some ([], ())) (cond (decide (8 < p0)) (some ([], ())) (cond (inb (IntKind.wrap .i64 (p0 - 1)) 8) (some ((nth .str ([[78, 79, 79, 80], [76, 79, 71, 79, 85, 84], [67, 76, 79, 83, 69], [69, 88, 80, 85, 78, 71, 69], [83, 69, 76, 69, 67, 84], [65, 80, 80, 69, 78, 68], [70, 69, 84, 67, 72], [83, 84, 79, 82, 69]] : List (List UInt8)) (Int.toNat (IntKind.wrap .i64 (p0 - 1)))), ())) none)))
def zaj (N : Nat) {R : Type} (x2 : List UInt8) (x3 : List UInt8) (x4 : Int) (rec_ : (List UInt8) -> (List UInt8) -> (Int) -> Option R) (o0 : (List UInt8) -> Option R) : Option R :=
 (cond (decide (x4 < (((List.length x2) : Nat) : Int))) (cond (inb x4 (List.length x2)) (cond (decide (97 <= (nth .u8 x2 (Int.toNat x4)))) (cond (decide ((nth .u8 x2 (Int.toNat x4)) <= 122)) (cond (decide (List.length x3 + List.length ([((nth .u8 x2 (Int.toNat x4)) - 32)] : List UInt8) < 4611686018427387904)) (rec_ x2 (x3 ++ ([((nth .u8 x2 (Int.toNat x4)) - 32)] : List UInt8)) (IntKind.wrap .i64 (x4 + 1))) none) (cond (decide (List.length x3 + List.length ([(nth .u8 x2 (Int.toNat x4))] : List UInt8) < 4611686018427387904)) (rec_ x2 (x3 ++ ([(nth .u8 x2 (Int.toNat x4))] : List UInt8)) (IntKind.wrap .i64 (x4 + 1))) none)) (cond (decide (List.length x3 + List.length ([(nth .u8 x2 (Int.toNat x4))] : List UInt8) < 4611686018427387904)) (rec_ x2 (x3 ++ ([(nth .u8 x2 (Int.toNat x4))] : List UInt8)) (IntKind.wrap .i64 (x4 + 1))) none)) none) (o0 x3))
def qB (N : Nat) : Nat -> (List UInt8) -> (List UInt8) -> (Int) -> Option ((List UInt8))
 | 0, _, _, _ => none
 | m + 1, x2, x3, x4 => zaj N x2 x3 x4 (qB N m) (fun v0 => some v0)
def zm (N : Nat) (p0 : (List UInt8)) : Option ((List UInt8) × Unit) :=
 (Option.bind (qB N N p0 [] 0) fun o6 => (some (o6, ())))
def zc7 (N : Nat) {R : Type} (x6 : List UInt8) (x7 : Int) (rec_ : (List UInt8) -> (Int) -> Option R) (o0 : (Int) -> Option R) (o1 : Unit -> Option R) : Option R :=
 (cond (decide (x7 <= 8)) (Option.bind (zev N x7) fun y11 => (Option.bind (zm N x6) fun y12 => (cond (y11.1 == y12.1) (o0 x7) (rec_ x6 (IntKind.wrap .i64 (x7 + 1)))))) (o1 ()))
def zb (N : Nat) : Nat -> (List UInt8) -> (Int) -> Option (((Int)) ⊕ (Unit))
 | 0, _, _ => none
 | m + 1, x6, x7 => zc7 N x6 x7 (zb N m) (fun v0 => some (Sum.inl v0)) (fun _ => some (Sum.inr ()))
def j0 (N : Nat) (p0 : (List UInt8)) : Option (Int × Unit) :=
 (Option.bind (zb N N p0 1) fun o17 => (zl o17 (fun a18 => (some (a18, ()))) (fun b19 => (some (0, ())))))
def zae (N : Nat) {R : Type} (x2 : List (El uS1)) (x3 : List UInt8) (x4 : Int) (rec_ : (List (El uS1)) -> (List UInt8) -> (Int) -> Option R) (o0 : (List UInt8) -> Option R) : Option R :=
 (cond (decide (x4 < (((List.length x2) : Nat) : Int))) (cond (inb x4 (List.length x2)) (cond (inb x4 (List.length x2)) (cond (js (nth uS1 x2 (Int.toNat x4)).1 (IntKind.wrap .i64 ((nth uS1 x2 (Int.toNat x4)).1 + 1)) 7) (cond (decide (List.length x3 + List.length (slice ([101, 115, 40, 41, 119, 113, 108] : List UInt8) (Int.toNat (nth uS1 x2 (Int.toNat x4)).1) (Int.toNat (IntKind.wrap .i64 ((nth uS1 x2 (Int.toNat x4)).1 + 1)))) < 4611686018427387904)) (rec_ x2 (x3 ++ (slice ([101, 115, 40, 41, 119, 113, 108] : List UInt8) (Int.toNat (nth uS1 x2 (Int.toNat x4)).1) (Int.toNat (IntKind.wrap .i64 ((nth uS1 x2 (Int.toNat x4)).1 + 1))))) (IntKind.wrap .i64 (x4 + 1))) none) none) none) none) (o0 x3))
def qD (N : Nat) : Nat -> (List (El uS1)) -> (List UInt8) -> (Int) -> Option ((List UInt8))
 | 0, _, _, _ => none
 | m + 1, x2, x3, x4 => zae N x2 x3 x4 (qD N m) (fun v0 => some v0)
def kT (N : Nat) (p0 : (List (El uS1))) : Option ((List UInt8) × Unit) :=
 (Option.bind (qD N N p0 [] 0) fun o6 => (some (o6, ())))
def kA (N : Nat) {R : Type} (x6 : Int) (x7 : Int) (x8 : List UInt8) (x9 : Int) (rec_ : (Int) -> (Int) -> (List UInt8) -> (Int) -> Option R) (o0 : (Int) -> (List UInt8) -> (Int) -> Option R) (o1 : (Int) -> (List UInt8) -> (Int) -> Option R) : Option R :=
 (cond (decide (x6 < (((List.length x8) : Nat) : Int))) (cond (inb x6 (List.length x8)) (Option.bind (j4 N (nth .u8 x8 (Int.toNat x6))) fun y12 => (cond (!y12.1) (cond (inb x6 (List.length x8)) (cond ((nth .u8 x8 (Int.toNat x6)) != 93) (o0 x7 x8 x9) (rec_ (IntKind.wrap .i64 (x6 + 1)) x7 x8 x9)) none) (rec_ (IntKind.wrap .i64 (x6 + 1)) x7 x8 x9))) none) (o1 x7 x8 x9))
def z6 (N : Nat) : Nat -> (Int) -> (Int) -> (List UInt8) -> (Int) -> Option (((Int) × (List UInt8) × (Int)) ⊕ ((Int) × (List UInt8) × (Int)))
 | 0, _, _, _, _ => none
 | m + 1, x6, x7, x8, x9 => kA N x6 x7 x8 x9 (z6 N m) (fun v0 v1 v2 => some (Sum.inl (v0, v1, v2))) (fun v0 v1 v2 => some (Sum.inr (v0, v1, v2)))
def wo (N : Nat) (p0 : (El uS1)) : Option (Bool × Unit) :=
 (cond (p0.1 != 4) (cond (p0.1 == 5) (some (true, ())) (some ((p0.1 == 6), ()))) (Option.bind (z6 N N 0 p0.1 p0.2.1 p0.2.2) fun o17 => (zl o17 (fun a18 => (some (false, ()))) (fun b19 => (some (true, ()))))))
def zem (N : Nat) (p0 : Int) : Option ((List UInt8) × Unit) :=
 (cond (p0 == 1) (some ([92, 65, 110, 115, 119, 101, 114, 101, 100], ())) (cond (p0 == 2) (some ([92, 70, 108, 97, 103, 103, 101, 100], ())) (cond (p0 == 4) (some ([92, 68, 101, 108, 101, 116, 101, 100], ())) (cond (p0 == 8) (some ([92, 83, 101, 101, 110], ())) (cond (p0 == 16) (some ([92, 68, 114, 97, 102, 116], ())) (some ([], ())))))))
def zdh (N : Nat) {R : Type} (x8 : List UInt8) (x9 : Int) (rec_ : (List UInt8) -> (Int) -> Option R) (o0 : (Int) -> Option R) (o1 : Unit -> Option R) : Option R :=
 (cond (decide (x9 <= 16)) (Option.bind (zem N x9) fun y14 => (Option.bind (zm N y14.1) fun y15 => (Option.bind (zm N x8) fun y16 => (cond (y15.1 == y16.1) (o0 x9) (rec_ x8 (IntKind.wrap .i64 (2 * x9))))))) (o1 ()))
def zg (N : Nat) : Nat -> (List UInt8) -> (Int) -> Option (((Int)) ⊕ (Unit))
 | 0, _, _ => none
 | m + 1, x8, x9 => zdh N x8 x9 (zg N m) (fun v0 => some (Sum.inl v0)) (fun _ => some (Sum.inr ()))
def kD (N : Nat) (p0 : (List UInt8)) : Option (Int × Unit) :=
 (Option.bind (zg N N p0 1) fun o21 => (zl o21 (fun a22 => (some (a22, ()))) (fun b23 => (some (0, ())))))
def zbh (N : Nat) (p0 : Int) : Option ((List UInt8) × Unit) :=
 (cond (p0 == 1) (some ([70, 76, 65, 71, 83], ())) (cond (p0 == 2) (some ([85, 73, 68], ())) (cond (p0 == 4) (some ([82, 70, 67, 56, 50, 50, 46, 83, 73, 90, 69], ())) (cond (p0 == 8) (some ([66, 79, 68, 89, 46, 80, 69, 69, 75, 91, 93], ())) (cond (p0 == 16) (some ([66, 79, 68, 89, 91, 93], ())) (some ([], ())))))))
def zcW (N : Nat) {R : Type} (x6 : List UInt8) (x7 : Int) (rec_ : (List UInt8) -> (Int) -> Option R) (o0 : (Int) -> Option R) (o1 : Unit -> Option R) : Option R :=
 (cond (decide (x7 <= 16)) (Option.bind (zbh N x7) fun y11 => (Option.bind (zm N x6) fun y12 => (cond (y11.1 == y12.1) (o0 x7) (rec_ x6 (IntKind.wrap .i64 (2 * x7)))))) (o1 ()))
def zf (N : Nat) : Nat -> (List UInt8) -> (Int) -> Option (((Int)) ⊕ (Unit))
 | 0, _, _ => none
 | m + 1, x6, x7 => zcW N x6 x7 (zf N m) (fun v0 => some (Sum.inl v0)) (fun _ => some (Sum.inr ()))
def j2 (N : Nat) (p0 : (List UInt8)) : Option (Int × Unit) :=
 (Option.bind (zf N N p0 1) fun o17 => (zl o17 (fun a18 => (some (a18, ()))) (fun b19 => (some (0, ())))))
def jZ (N : Nat) {R : Type} (x5 : List (El uS1)) (x6 : Bool) (x7 : Int) (x8 : Int) (rec_ : (List (El uS1)) -> (Bool) -> (Int) -> (Int) -> Option R) (o0 : Unit -> Option R) (o1 : (List (El uS1)) -> (Int) -> Option R) : Option R :=
 (cond (decide (x8 < (((List.length x5) : Nat) : Int))) (cond ((Int.tmod x8 2) == 1) (cond (inb x8 (List.length x5)) (cond ((nth uS1 x5 (Int.toNat x8)).1 != 1) (o0 ()) (rec_ x5 x6 x7 (IntKind.wrap .i64 (x8 + 1)))) none) (cond (inb x8 (List.length x5)) (cond ((nth uS1 x5 (Int.toNat x8)).1 == 4) (cond (inb x8 (List.length x5)) (Option.bind (kD N (nth uS1 x5 (Int.toNat x8)).2.1) fun y12 => (cond x6 (cond (inb x8 (List.length x5)) (Option.bind (j2 N (nth uS1 x5 (Int.toNat x8)).2.1) fun y13 => (cond (y13.1 == 0) (o0 ()) (rec_ x5 x6 (kU .or .i64 x7 y13.1) (IntKind.wrap .i64 (x8 + 1))))) none) (cond (y12.1 == 0) (o0 ()) (rec_ x5 x6 (kU .or .i64 x7 y12.1) (IntKind.wrap .i64 (x8 + 1)))))) none) (o0 ())) none)) (o1 x5 x7))
def zG (N : Nat) : Nat -> (List (El uS1)) -> (Bool) -> (Int) -> (Int) -> Option ((Unit) ⊕ ((List (El uS1)) × (Int)))
 | 0, _, _, _, _ => none
 | m + 1, x5, x6, x7, x8 => jZ N x5 x6 x7 x8 (zG N m) (fun _ => some (Sum.inl ())) (fun v0 v1 => some (Sum.inr (v0, v1)))
def jJ (N : Nat) (p0 : (List (El uS1))) (p1 : Bool) : Option (Int × Bool × Unit) :=
 (Option.bind (zG N N p0 p1 0 0) fun o18 => (zl o18 (fun a19 => (some (0, false, ()))) (fun b20 => (some (b20.2, ((Int.tmod (((List.length b20.1) : Nat) : Int) 2) == 1), ())))))
def qW (N : Nat) (p0 : (List (El uS1))) (p1 : Bool) : Option (Int × Bool × Unit) :=
 (cond (decide ((((List.length p0) : Nat) : Int) < 2)) (some (0, false, ())) (cond (inb 0 (List.length p0)) (cond ((nth uS1 p0 0).1 != 2) (some (0, false, ())) (cond (inb (IntKind.wrap .i64 ((((List.length p0) : Nat) : Int) - 1)) (List.length p0)) (cond ((nth uS1 p0 (Int.toNat (IntKind.wrap .i64 ((((List.length p0) : Nat) : Int) - 1)))).1 != 3) (some (0, false, ())) (cond ((((List.length p0) : Nat) : Int) == 2) (some (0, (!p1), ())) (cond ((js 1 (IntKind.wrap .i64 ((((List.length p0) : Nat) : Int) - 1)) (List.length p0)) && true) (Option.bind (jJ N (slice p0 1 (Int.toNat (IntKind.wrap .i64 ((((List.length p0) : Nat) : Int) - 1)))) p1) fun y1 => (some (y1.1, y1.2.1, ()))) none))) none)) none))
def qC (N : Nat) (p0 : (El uS2)) (p1 : (List (El uS1))) : Option ((El uS2) × Bool × Unit) :=
 (cond ((((List.length p1) : Nat) : Int) == 0) (some (p0, false, ())) (cond (inb (IntKind.wrap .i64 ((((List.length p1) : Nat) : Int) - 1)) (List.length p1)) (cond ((nth uS1 p1 (Int.toNat (IntKind.wrap .i64 ((((List.length p1) : Nat) : Int) - 1)))).1 != 6) (some (p0, false, ())) (cond (inb (IntKind.wrap .i64 ((((List.length p1) : Nat) : Int) - 1)) (List.length p1)) (cond (Nat.blt (List.length (nth uS1 p1 (Int.toNat (IntKind.wrap .i64 ((((List.length p1) : Nat) : Int) - 1)))).2.1) jd) (cond ((((List.length p1) : Nat) : Int) == 1) (some ((p0.1, (p0.2.1, (p0.2.2.1, (p0.2.2.2.1, (p0.2.2.2.2.1, (p0.2.2.2.2.2.1, (p0.2.2.2.2.2.2.1, (p0.2.2.2.2.2.2.2.1, (nth uS1 p1 (Int.toNat (IntKind.wrap .i64 ((((List.length p1) : Nat) : Int) - 1)))).2.1)))))))), true, ())) (cond ((js 0 (IntKind.wrap .i64 ((((List.length p1) : Nat) : Int) - 2)) (List.length p1)) && true) (Option.bind (qW N (slice p1 0 (Int.toNat (IntKind.wrap .i64 ((((List.length p1) : Nat) : Int) - 2)))) false) fun y1 => (cond y1.2.1 (cond (inb (IntKind.wrap .i64 ((((List.length p1) : Nat) : Int) - 2)) (List.length p1)) (some ((p0.1, (p0.2.1, (p0.2.2.1, (p0.2.2.2.1, (p0.2.2.2.2.1, (p0.2.2.2.2.2.1, (p0.2.2.2.2.2.2.1, ((zav y1.1), (nth uS1 p1 (Int.toNat (IntKind.wrap .i64 ((((List.length p1) : Nat) : Int) - 1)))).2.1)))))))), ((nth uS1 p1 (Int.toNat (IntKind.wrap .i64 ((((List.length p1) : Nat) : Int) - 2)))).1 == 1), ())) none) (some ((p0.1, (p0.2.1, (p0.2.2.1, (p0.2.2.2.1, (p0.2.2.2.2.1, (p0.2.2.2.2.2.1, (p0.2.2.2.2.2.2.1, ((zav y1.1), (nth uS1 p1 (Int.toNat (IntKind.wrap .i64 ((((List.length p1) : Nat) : Int) - 1)))).2.1)))))))), false, ())))) none)) none) none)) none))
def jT (N : Nat) {R : Type} (x9 : List UInt8) (x10 : UInt8) (x11 : Int) (x12 : Int) (x13 : List (List UInt8)) (rec_ : (List UInt8) -> (UInt8) -> (Int) -> (Int) -> (List (List UInt8)) -> Option R) (o0 : (List (List UInt8)) -> Option R) : Option R :=
 (cond (decide (x12 <= (((List.length x9) : Nat) : Int))) (cond (x12 == (((List.length x9) : Nat) : Int)) (cond (js x11 x12 (List.length x9)) (cond (Nat.blt ((List.length x13) + 1) jd) (rec_ x9 x10 (IntKind.wrap .i64 (x12 + 1)) (IntKind.wrap .i64 (x12 + 1)) (x13 ++ ([(slice x9 (Int.toNat x11) (Int.toNat x12))] : List (List UInt8)))) none) none) (cond (inb x12 (List.length x9)) (cond ((nth .u8 x9 (Int.toNat x12)) == x10) (cond (js x11 x12 (List.length x9)) (cond (Nat.blt ((List.length x13) + 1) jd) (rec_ x9 x10 (IntKind.wrap .i64 (x12 + 1)) (IntKind.wrap .i64 (x12 + 1)) (x13 ++ ([(slice x9 (Int.toNat x11) (Int.toNat x12))] : List (List UInt8)))) none) none) (rec_ x9 x10 x11 (IntKind.wrap .i64 (x12 + 1)) x13)) none)) (o0 x13))
def zR (N : Nat) : Nat -> (List UInt8) -> (UInt8) -> (Int) -> (Int) -> (List (List UInt8)) -> Option ((List (List UInt8)))
 | 0, _, _, _, _, _ => none
 | m + 1, x9, x10, x11, x12, x13 => jT N x9 x10 x11 x12 x13 (zR N m) (fun v0 => some v0)
def wy (N : Nat) (p0 : (List UInt8)) (p1 : UInt8) : Option ((List (List UInt8)) × Unit) :=
 (Option.bind (zR N N p0 p1 0 0 []) fun o15 => (some (o15, ())))
def jP (N : Nat) (p0 : (List UInt8)) : Option (Int × Bool × Unit) :=
 (cond (p0 == [42]) (some (0, true, ())) (Option.bind (jQ N p0) fun y1 => (cond y1.2.1 (some (y1.1, (decide (0 < y1.1)), ())) (some (y1.1, false, ())))))
def xE (N : Nat) {R : Type} (x16 : List (List UInt8)) (x17 : Int) (x18 : List (Int × Int)) (rec_ : (List (List UInt8)) -> (Int) -> (List (Int × Int)) -> Option R) (o0 : (List (Int × Int)) -> Option R) (o1 : (List (Int × Int)) -> Option R) : Option R :=
 (cond (decide (x17 < (((List.length x16) : Nat) : Int))) (cond (inb x17 (List.length x16)) (Option.bind (wy N (nth .str x16 (Int.toNat x17)) 58) fun y23 => (cond (decide (2 < (((List.length y23.1) : Nat) : Int))) (o0 x18) (cond (inb 0 (List.length y23.1)) (Option.bind (jP N (nth .str y23.1 0)) fun y24 => (cond (inb (IntKind.wrap .i64 ((((List.length y23.1) : Nat) : Int) - 1)) (List.length y23.1)) (Option.bind (jP N (nth .str y23.1 (Int.toNat (IntKind.wrap .i64 ((((List.length y23.1) : Nat) : Int) - 1))))) fun y25 => (cond (!y24.2.1) (o0 x18) (cond (!y25.2.1) (o0 x18) (cond (Nat.blt ((List.length x18) + 1) jd) (rec_ x16 (IntKind.wrap .i64 (x17 + 1)) (x18 ++ ([(y24.1, y25.1)] : List (Int × Int)))) none)))) none)) none))) none) (o1 x18))
def zF (N : Nat) : Nat -> (List (List UInt8)) -> (Int) -> (List (Int × Int)) -> Option (((List (Int × Int))) ⊕ ((List (Int × Int))))
 | 0, _, _, _ => none
 | m + 1, x16, x17, x18 => xE N x16 x17 x18 (zF N m) (fun v0 => some (Sum.inl v0)) (fun v0 => some (Sum.inr v0))
def wm (N : Nat) (p0 : (List UInt8)) : Option ((List (Int × Int)) × Bool × Unit) :=
 (Option.bind (wy N p0 44) fun y1 => (Option.bind (zF N N y1.1 0 []) fun o30 => (zl o30 (fun a31 => (some ([], false, ()))) (fun b32 => (some (b32, true, ()))))))
def xP (N : Nat) (p0 : (List UInt8)) : Option (Int × Bool × Unit) :=
 (Option.bind (zm N p0) fun y1 => (cond (decide (7 < (((List.length y1.1) : Nat) : Int))) (cond (js (IntKind.wrap .i64 ((((List.length y1.1) : Nat) : Int) - 7)) (((List.length y1.1) : Nat) : Int) (List.length y1.1)) (cond ((slice y1.1 (Int.toNat (IntKind.wrap .i64 ((((List.length y1.1) : Nat) : Int) - 7))) (Int.toNat (((List.length y1.1) : Nat) : Int))) == [46, 83, 73, 76, 69, 78, 84]) (cond (js 0 (IntKind.wrap .i64 ((((List.length y1.1) : Nat) : Int) - 7)) (List.length y1.1)) (cond ((slice y1.1 0 (Int.toNat (IntKind.wrap .i64 ((((List.length y1.1) : Nat) : Int) - 7)))) == [70, 76, 65, 71, 83]) (some (0, true, ())) (cond ((slice y1.1 0 (Int.toNat (IntKind.wrap .i64 ((((List.length y1.1) : Nat) : Int) - 7)))) == [43, 70, 76, 65, 71, 83]) (some (1, true, ())) (cond ((slice y1.1 0 (Int.toNat (IntKind.wrap .i64 ((((List.length y1.1) : Nat) : Int) - 7)))) == [45, 70, 76, 65, 71, 83]) (some (2, true, ())) (some ((-1), false, ()))))) none) (cond (y1.1 == [70, 76, 65, 71, 83]) (some (0, false, ())) (cond (y1.1 == [43, 70, 76, 65, 71, 83]) (some (1, false, ())) (cond (y1.1 == [45, 70, 76, 65, 71, 83]) (some (2, false, ())) (some ((-1), false, ())))))) none) (cond (y1.1 == [70, 76, 65, 71, 83]) (some (0, false, ())) (cond (y1.1 == [43, 70, 76, 65, 71, 83]) (some (1, false, ())) (cond (y1.1 == [45, 70, 76, 65, 71, 83]) (some (2, false, ())) (some ((-1), false, ())))))))
def xW (N : Nat) (p0 : (List UInt8)) (p1 : (List (El uS1))) : Option ((El uS2) × Bool × Unit) :=
 (cond ((((List.length p1) : Nat) : Int) == 0) (some ((p0, (0, ([], ([], (0, (0, (false, (0, [])))))))), false, ())) (cond (inb 0 (List.length p1)) (cond ((nth uS1 p1 0).1 != 4) (some ((p0, (0, ([], ([], (0, (0, (false, (0, [])))))))), false, ())) (cond (inb 0 (List.length p1)) (Option.bind (j0 N (nth uS1 p1 0).2.1) fun y1 => (cond (y1.1 == 0) (cond (decide (0 < y1.1)) (some ((p0, (y1.1, ([], ([], (0, (0, (false, (0, [])))))))), ((((List.length p1) : Nat) : Int) == 1), ())) (some ((p0, (y1.1, ([], ([], (0, (0, (false, (0, [])))))))), false, ()))) (cond (decide (y1.1 <= 4)) (cond (decide (0 < y1.1)) (some ((p0, (y1.1, ([], ([], (0, (0, (false, (0, [])))))))), ((((List.length p1) : Nat) : Int) == 1), ())) (some ((p0, (y1.1, ([], ([], (0, (0, (false, (0, [])))))))), false, ()))) (Option.bind (kT N p1) fun y2 => (cond (decide ((((List.length p1) : Nat) : Int) < 3)) (some ((p0, (y1.1, ([], ([], (0, (0, (false, (0, [])))))))), false, ())) (cond (inb 1 (List.length y2.1)) (cond ((nth .u8 y2.1 1) != 115) (some ((p0, (y1.1, ([], ([], (0, (0, (false, (0, [])))))))), false, ())) (cond (decide (y1.1 <= 6)) (cond (inb 2 (List.length p1)) (cond (inb 2 (List.length p1)) (Option.bind (wo N (nth uS1 p1 2)) fun y3 => (cond (!y3.1) (some ((p0, (y1.1, ((nth uS1 p1 2).2.1, ([], (0, (0, (false, (0, [])))))))), false, ())) (cond (y1.1 == 5) (some ((p0, (y1.1, ((nth uS1 p1 2).2.1, ([], (0, (0, (false, (0, [])))))))), ((((List.length p1) : Nat) : Int) == 3), ())) (cond (decide ((((List.length p1) : Nat) : Int) < 4)) (some ((p0, (y1.1, ((nth uS1 p1 2).2.1, ([], (0, (0, (false, (0, [])))))))), false, ())) (cond (inb 3 (List.length y2.1)) (cond ((nth .u8 y2.1 3) != 115) (some ((p0, (y1.1, ((nth uS1 p1 2).2.1, ([], (0, (0, (false, (0, [])))))))), false, ())) (cond (zW 4 p1 && true) (Option.bind (qC N (p0, (y1.1, ((nth uS1 p1 2).2.1, ([], (0, (0, (false, (0, [])))))))) (ze p1 4)) fun y4 => (some (y4.1, y4.2.1, ()))) none)) none))))) none) none) (cond (inb 2 (List.length p1)) (Option.bind (wm N (nth uS1 p1 2).2.1) fun y5 => (cond (inb 2 (List.length p1)) (cond ((nth uS1 p1 2).1 != 4) (some ((p0, (y1.1, ([], ([], (0, (0, (false, (0, [])))))))), false, ())) (cond (!y5.2.1) (some ((p0, (y1.1, ([], ([], (0, (0, (false, (0, [])))))))), false, ())) (cond (decide ((((List.length p1) : Nat) : Int) < 5)) (some ((p0, (y1.1, ([], ([], (0, (0, (false, (0, [])))))))), false, ())) (cond (inb 3 (List.length y2.1)) (cond ((nth .u8 y2.1 3) != 115) (some ((p0, (y1.1, ([], ([], (0, (0, (false, (0, [])))))))), false, ())) (cond (y1.1 == 7) (cond (zW 4 p1 && true) (Option.bind (qW N (ze p1 4) true) fun y6 => (cond ((((List.length p1) : Nat) : Int) == 5) (cond (zW 4 p1 && true) (Option.bind (jJ N (ze p1 4) true) fun y7 => (some ((p0, (y1.1, ([], (y5.1, (y7.1, (0, (false, (0, [])))))))), y7.2.1, ()))) none) (some ((p0, (y1.1, ([], (y5.1, (y6.1, (0, (false, (0, [])))))))), y6.2.1, ())))) none) (cond (inb 4 (List.length p1)) (Option.bind (xP N (nth uS1 p1 4).2.1) fun y8 => (cond (inb 4 (List.length p1)) (cond ((nth uS1 p1 4).1 != 4) (some ((p0, (y1.1, ([], (y5.1, (0, (0, (false, (0, [])))))))), false, ())) (cond (decide (y8.1 < 0)) (some ((p0, (y1.1, ([], (y5.1, (0, (0, (false, (0, [])))))))), false, ())) (cond (decide ((((List.length p1) : Nat) : Int) < 7)) (some ((p0, (y1.1, ([], (y5.1, (0, (0, (false, (0, [])))))))), false, ())) (cond (inb 5 (List.length y2.1)) (cond ((nth .u8 y2.1 5) != 115) (some ((p0, (y1.1, ([], (y5.1, (0, (0, (false, (0, [])))))))), false, ())) (cond (zW 6 p1 && true) (Option.bind (qW N (ze p1 6) false) fun y9 => (cond (!y9.2.1) (cond (zW 6 p1 && true) (Option.bind (jJ N (ze p1 6) false) fun y10 => (some ((p0, (y1.1, ([], (y5.1, (0, (y8.1, (y8.2.1, ((zav y10.1), [])))))))), y10.2.1, ()))) none) (some ((p0, (y1.1, ([], (y5.1, (0, (y8.1, (y8.2.1, ((zav y9.1), [])))))))), y9.2.1, ())))) none)) none)))) none)) none))) none)))) none)) none))) none)))))) none)) none))
def kZ (N : Nat) (p0 : (List UInt8)) : Option ((El uS2) × Bool × Unit) :=
 (Option.bind (wL N p0) fun y1 => (cond (!y1.2.2.1) (some (([], (0, ([], ([], (0, (0, (false, (0, [])))))))), false, ())) (cond (zW y1.2.1 p0 && true) (Option.bind (wW N (ze p0 (Int.toNat y1.2.1))) fun y2 => (cond (decide (0 <= y2.2.1)) (some ((y1.1, (0, ([], ([], (0, (0, (false, (0, [])))))))), false, ())) (cond ((js 0 (IntKind.wrap .i64 ((((List.length y2.1) : Nat) : Int) - 1)) (List.length y2.1)) && true) (Option.bind (xW N y1.1 (slice y2.1 0 (Int.toNat (IntKind.wrap .i64 ((((List.length y2.1) : Nat) : Int) - 1))))) fun y3 => (cond (!y3.2.1) (some ((y1.1, (0, ([], ([], (0, (0, (false, (0, [])))))))), false, ())) (some (y3.1, true, ())))) none))) none)))
def zai (N : Nat) {R : Type} (x19 : Int) (x20 : List UInt8) (x21 : Int) (x22 : List UInt8) (x23 : List (Int × Int)) (x24 : Int) (x25 : Int) (x26 : Bool) (x27 : UInt8) (x28 : List UInt8) (x29 : List UInt8) (x30 : Int) (x31 : List UInt8) (x32 : List (Int × Int)) (x33 : Int) (x34 : Int) (x35 : Bool) (x36 : UInt8) (x37 : List UInt8) (rec_ : (Int) -> (List UInt8) -> (Int) -> (List UInt8) -> (List (Int × Int)) -> (Int) -> (Int) -> (Bool) -> (UInt8) -> (List UInt8) -> (List UInt8) -> (Int) -> (List UInt8) -> (List (Int × Int)) -> (Int) -> (Int) -> (Bool) -> (UInt8) -> (List UInt8) -> Option R) (o0 : (List UInt8) -> (Int) -> (List UInt8) -> (List (Int × Int)) -> (Int) -> (Int) -> (Bool) -> (UInt8) -> (List UInt8) -> (List UInt8) -> (Int) -> (List UInt8) -> (List (Int × Int)) -> (Int) -> (Int) -> (Bool) -> (UInt8) -> (List UInt8) -> Option R) (o1 : (List UInt8) -> (Int) -> (List UInt8) -> (List (Int × Int)) -> (Int) -> (Int) -> (Bool) -> (UInt8) -> (List UInt8) -> (List UInt8) -> (Int) -> (List UInt8) -> (List (Int × Int)) -> (Int) -> (Int) -> (Bool) -> (UInt8) -> (List UInt8) -> Option R) : Option R :=
 (cond (decide (x19 < (((List.length x23) : Nat) : Int))) (cond (inb x19 (List.length x23)) (cond (inb x19 (List.length x32)) (cond (!(((nth (.pair (.int .u32) (.int .u32)) x23 (Int.toNat x19)).1 == (nth (.pair (.int .u32) (.int .u32)) x32 (Int.toNat x19)).1) && (((nth (.pair (.int .u32) (.int .u32)) x23 (Int.toNat x19)).2 == (nth (.pair (.int .u32) (.int .u32)) x32 (Int.toNat x19)).2) && true))) (o0 x20 x21 x22 x23 x24 x25 x26 x27 x28 x29 x30 x31 x32 x33 x34 x35 x36 x37) (rec_ (IntKind.wrap .i64 (x19 + 1)) x20 x21 x22 x23 x24 x25 x26 x27 x28 x29 x30 x31 x32 x33 x34 x35 x36 x37)) none) none) (o1 x20 x21 x22 x23 x24 x25 x26 x27 x28 x29 x30 x31 x32 x33 x34 x35 x36 x37))
def qF (N : Nat) : Nat -> (Int) -> (List UInt8) -> (Int) -> (List UInt8) -> (List (Int × Int)) -> (Int) -> (Int) -> (Bool) -> (UInt8) -> (List UInt8) -> (List UInt8) -> (Int) -> (List UInt8) -> (List (Int × Int)) -> (Int) -> (Int) -> (Bool) -> (UInt8) -> (List UInt8) -> Option (((List UInt8) × (Int) × (List UInt8) × (List (Int × Int)) × (Int) × (Int) × (Bool) × (UInt8) × (List UInt8) × (List UInt8) × (Int) × (List UInt8) × (List (Int × Int)) × (Int) × (Int) × (Bool) × (UInt8) × (List UInt8)) ⊕ ((List UInt8) × (Int) × (List UInt8) × (List (Int × Int)) × (Int) × (Int) × (Bool) × (UInt8) × (List UInt8) × (List UInt8) × (Int) × (List UInt8) × (List (Int × Int)) × (Int) × (Int) × (Bool) × (UInt8) × (List UInt8)))
 | 0, _, _, _, _, _, _, _, _, _, _, _, _, _, _, _, _, _, _, _ => none
 | m + 1, x19, x20, x21, x22, x23, x24, x25, x26, x27, x28, x29, x30, x31, x32, x33, x34, x35, x36, x37 => zai N x19 x20 x21 x22 x23 x24 x25 x26 x27 x28 x29 x30 x31 x32 x33 x34 x35 x36 x37 (qF N m) (fun v0 v1 v2 v3 v4 v5 v6 v7 v8 v9 v10 v11 v12 v13 v14 v15 v16 v17 => some (Sum.inl (v0, v1, v2, v3, v4, v5, v6, v7, v8, v9, v10, v11, v12, v13, v14, v15, v16, v17))) (fun v0 v1 v2 v3 v4 v5 v6 v7 v8 v9 v10 v11 v12 v13 v14 v15 v16 v17 => some (Sum.inr (v0, v1, v2, v3, v4, v5, v6, v7, v8, v9, v10, v11, v12, v13, v14, v15, v16, v17)))
def kj (N : Nat) (p0 : (El uS2)) (p1 : (El uS2)) : Option (Bool × Unit) :=
 (cond ((((List.length p0.2.2.2.1) : Nat) : Int) != (((List.length p1.2.2.2.1) : Nat) : Int)) (some (false, ())) (cond (p0.2.2.2.2.2.2.2.2 != p1.2.2.2.2.2.2.2.2) (some (false, ())) (Option.bind (qF N N 0 p0.1 p0.2.1 p0.2.2.1 p0.2.2.2.1 p0.2.2.2.2.1 p0.2.2.2.2.2.1 p0.2.2.2.2.2.2.1 p0.2.2.2.2.2.2.2.1 p0.2.2.2.2.2.2.2.2 p1.1 p1.2.1 p1.2.2.1 p1.2.2.2.1 p1.2.2.2.2.1 p1.2.2.2.2.2.1 p1.2.2.2.2.2.2.1 p1.2.2.2.2.2.2.2.1 p1.2.2.2.2.2.2.2.2) fun o43 => (zl o43 (fun a44 => (some (false, ()))) (fun b45 => (cond (b45.1 == b45.2.2.2.2.2.2.2.2.2.1) (cond (b45.2.1 == b45.2.2.2.2.2.2.2.2.2.2.1) (cond (b45.2.2.1 == b45.2.2.2.2.2.2.2.2.2.2.2.1) (cond (b45.2.2.2.2.1 == b45.2.2.2.2.2.2.2.2.2.2.2.2.2.1) (cond (b45.2.2.2.2.2.1 == b45.2.2.2.2.2.2.2.2.2.2.2.2.2.2.1) (cond (b45.2.2.2.2.2.2.1 == b45.2.2.2.2.2.2.2.2.2.2.2.2.2.2.2.1) (some ((b45.2.2.2.2.2.2.2.1 == b45.2.2.2.2.2.2.2.2.2.2.2.2.2.2.2.2.1), ())) (some (false, ()))) (some (false, ()))) (some (false, ()))) (some (false, ()))) (some (false, ()))) (some (false, ()))))))))
end Go.Proofs.Model
namespace Go.Sx
open Go Go.Gx Go.Mx
theorem wri {x : Int} (h : -9223372036854775808 <= x) (h' : x <= 9223372036854775807) : IntKind.wrap .i64 x = x := by
 simp [IntKind.wrap, IntKind.bits, IntKind.signed]; omega
theorem zX {i n : Nat} (h : i < n) : inb (i : Int) n = true := by
 unfold inb; simp; omega
theorem qY {a b n : Nat} (h : a <= b) (h' : b <= n) : js (a : Int) (b : Int) n = true := by
 unfold js; simp; omega
theorem jH {u : U} {l : List (El u)} {i : Nat} (h : i < l.length) : nth u l i = l[i] := by
 unfold nth; rw [List.getD_eq_getElem?_getD, List.getElem?_eq_getElem h]; rfl
theorem drop_one {α : Type} {l : List α} {i : Nat} (h : i < l.length) : l.drop i = l[i] :: l.drop (i + 1) := List.drop_eq_getElem_cons h
theorem zhN {i n : Nat} (h : i < n) : decide ((i : Int) < (n : Int)) = true := by simp; omega
theorem zhM {i n : Nat} (h : ¬ i < n) : decide ((i : Int) < (n : Int)) = false := by simp; omega
theorem j7 {α : Type} {l : List α} {n : Nat} : slice l 0 n = l.take n := by unfold slice; simp
theorem xg {α : Type} {l : List α} {a : Nat} : slice l a l.length = l.drop a := by
 unfold slice; rw [List.take_of_length_le]; rw [List.length_drop]; exact Nat.le_refl _
section
variable {u v : U} (hS : ∀ a b : El u, zlh u a b = true ↔ a = b)
include hS
end
end Go.Sx
namespace Go.Proofs.Model
open Go Go.Gx Go.Mx Go.Sx
theorem zd9 {p : UInt8 -> Bool} (h : ((List.range 256).all fun n => p (UInt8.ofNat n)) = true) (c : UInt8) : p c = true := by
 rw [List.all_eq_true] at h
 have := h c.toNat (List.mem_range.2 c.toNat_lt)
 rwa [UInt8.ofNat_toNat] at this
def bOf (o : Option (Bool × Unit)) : Bool := match o with
 | some (b, _) => b
 | none => false
def zfx (c : UInt8) : Bool := bOf (j4 0 c)
def jN (c : UInt8) : Bool := bOf (xG 0 c)
def zdB (c : UInt8) : Bool := bOf (jC 0 c)
def jv (c : UInt8) : Bool := bOf (jl 0 c)
def isB (o : Option (Bool × Unit)) (b : Bool) : Bool := match o with
 | some (x, _) => x == b
 | none => false
theorem zeg {o : Option (Bool × Unit)} {b : Bool} (h : isB o b = true) : o = some (b, ()) := by
 unfold isB at h
 split at h
 ·rename_i x u; rw [beq_iff_eq] at h; subst h; rfl
 ·cases h
theorem zsE (N : Nat) (c : UInt8) : j4 N c = some (zfx c, ()) := zeg (zd9 (p := fun c => isB (j4 0 c) (zfx c)) (by kernel_rfl) c)
theorem zuV (N : Nat) (c : UInt8) : zb8 N c = some (jN c, ()) := zeg (zd9 (p := fun c => isB (zb8 0 c) (jN c)) (by kernel_rfl) c)
theorem zuL (N : Nat) (c : UInt8) : xG N c = some (jN c, ()) := zeg (zd9 (p := fun c => isB (xG 0 c) (jN c)) (by kernel_rfl) c)
theorem zru (N : Nat) (c : UInt8) : wR N c = some (zdB c, ()) := zeg (zd9 (p := fun c => isB (wR 0 c) (zdB c)) (by kernel_rfl) c)
theorem zr4 (N : Nat) (c : UInt8) : jC N c = some (zdB c, ()) := zeg (zd9 (p := fun c => isB (jC 0 c) (zdB c)) (by kernel_rfl) c)
theorem zsB (N : Nat) (c : UInt8) : kg N c = some (jv c, ()) := zeg (zd9 (p := fun c => isB (kg 0 c) (jv c)) (by kernel_rfl) c)
theorem zsz (N : Nat) (c : UInt8) : jl N c = some (jv c, ()) := zeg (zd9 (p := fun c => isB (jl 0 c) (jv c)) (by kernel_rfl) c)
theorem zuA (N : Nat) (c : UInt8) : zbd N c = some (zfx c, ()) := zeg (zd9 (p := fun c => isB (zbd 0 c) (zfx c)) (by kernel_rfl) c)
def run (p : UInt8 -> Bool) : List UInt8 -> Nat
 | [] => 0
 | c :: l => if p c then run p l + 1 else 0
theorem zgx (p : UInt8 -> Bool) : ∀ l : List UInt8, run p l <= l.length
 | [] => Nat.le_refl _
 | c :: l => by
  unfold run
  split
  ·have := zgx p l; simp; omega
  ·simp
theorem zhd (p : UInt8 -> Bool) : ∀ b : List UInt8, (b.take (run p b)).all p = true
 | [] => rfl
 | c :: l => by
  unfold run
  cases h : p c with
  | true => simpa [h] using zhd p l
  | false => simp
theorem zdb {p : UInt8 -> Bool} {c : UInt8} (hp : p c = false) : ∀ (l : List UInt8) (k : Nat), run p l < l.length -> l[run p l]? = some c -> jh c l k = ((k + run p l : Nat) : Int)
 | [], k, h, _ => by simp [run] at h
 | x :: l, k, h, hc => by
  unfold run at h hc |-
  cases hx : p x with
  | true =>
   simp only [hx, if_true] at h hc |-
   have hne : (x == c) = false := by
    cases e : x == c with
    | false => rfl
    | true => rw [beq_iff_eq] at e; subst e; rw [hp] at hx; cases hx
   have := zdb hp l (k + 1) (by simpa using h) (by simpa using hc)
   simp only [jh, hne, Bool.false_eq_true, if_false, this]
   congr 1; omega
  | false =>
   simp only [hx, Bool.false_eq_true, if_false] at h hc |-
   simp only [List.getElem?_cons_zero, Option.some.injEq] at hc
   subst hc
   simp [jh]
theorem ziC {p : UInt8 -> Bool} {c : UInt8} (hp : p c = false) : ∀ (l : List UInt8) (k : Nat), jh c l k = -1 \/ ∃ i, jh c l k = ((k + i : Nat) : Int) /\ i < l.length /\ l[i]? = some c /\ ((l.take i).all p = true -> run p l = i)
 | [], k => .inl rfl
 | x :: l, k => by
  simp only [jh]
  cases e : x == c with
  | true =>
   rw [beq_iff_eq] at e; subst e
   exact .inr ⟨0, by simp, by simp, rfl, fun _ => by simp [run, hp]⟩
  | false =>
   simp only [Bool.false_eq_true, if_false]
   rcases ziC hp l (k + 1) with h | ⟨i, h1, h2, h3, h4⟩
   ·exact .inl h
   ·refine .inr ⟨i + 1, by rw [h1]; congr 1; omega, by simpa using h2, by simpa using h3, fun h => ?_⟩
    simp only [List.take_succ_cons, List.all_cons, Bool.and_eq_true] at h
    simp [run, h.1, h4 h.2]
theorem ztf (N : Nat) (s : List UInt8) (hs : s.length <= 100000) : ∀ (m i : Nat), i <= s.length -> s.length < m + i ->
  qS N m s (s.length : Int) (i : Int) = some (if (s.drop i).all jN = true then Sum.inr () else Sum.inl ())
 | 0, i, h, h' => by omega
 | m + 1, i, h, h' => by
  unfold qS zaL
  by_cases hi : i < s.length
  ·simp only [zhN hi, cond_true, zX hi, Int.toNat_natCast, jH (u := .u8) hi, zuV, Option.bind_some, drop_one hi, List.all_cons]
   cases hc : jN s[i] with
   | true =>
    simp only [Bool.not_true, cond_false, Bool.true_and]
    rw [wri (by omega) (by omega), show ((i : Int) + 1) = ((i + 1 : Nat) : Int) by omega]
    exact ztf N s hs m (i + 1) (by omega) (by omega)
   | false => simp
  ·simp only [zhM hi, cond_false]
   rw [List.drop_eq_nil_of_le (by omega)]
   simp
theorem zrP (N : Nat) (s : List UInt8) (hs : s.length <= 100000) : ∀ (m i : Nat), i <= s.length -> s.length < m + i ->
  jn N m s (i : Int) = some (s, ((i + run jN (s.drop i) : Nat) : Int))
 | 0, i, h, h' => by omega
 | m + 1, i, h, h' => by
  unfold jn zbl
  by_cases hi : i < s.length
  ·simp only [zhN hi, cond_true, zX hi, Int.toNat_natCast, jH (u := .u8) hi, zuL, Option.bind_some, drop_one hi, run]
   cases hc : jN s[i] with
   | true =>
    simp only [cond_true, if_true]
    rw [wri (by omega) (by omega), show ((i : Int) + 1) = ((i + 1 : Nat) : Int) by omega, zrP N s hs m (i + 1) (by omega) (by omega)]
    congr 3; omega
   | false => simp
  ·simp only [zhM hi, cond_false]
   rw [List.drop_eq_nil_of_le (by omega)]
   simp [run]
def zpi (b : List UInt8) : Option ((List UInt8) × Int × Bool × Unit) := some (if 0 < run jN b /\ b[run jN b]? = some 32 then (b.take (run jN b), ((run jN b + 1 : Nat) : Int), true, ()) else ([], 0, false, ()))
theorem zmI (N : Nat) (b : List UInt8) (hb : b.length <= 100000) (hN : b.length < N) : wL N b = zpi b := by
 unfold wL zpi
 have h0 := zrP N b hb N 0 (by omega) (by omega)
 simp only [List.drop_zero, Nat.zero_add] at h0
 rw [show ((0 : Nat) : Int) = (0 : Int) from rfl] at h0
 rw [h0]
 have hle := zgx jN b
 generalize run jN b = i at hle |-
 simp only [Option.bind_some]
 by_cases h1 : i = 0
 ·subst h1; simp
 ·have e1 : (((i : Nat) : Int) == (0 : Int)) = false := by simp; omega
  simp only [e1, cond_false]
  by_cases h2 : i = b.length
  ·subst h2; simp
  ·have hi : i < b.length := by omega
   have e2 : (((i : Nat) : Int) == ((b.length : Nat) : Int)) = false := by simp; omega
   simp only [e2, cond_false, zX hi, cond_true, Int.toNat_natCast, jH (u := .u8) hi]
   have e3 : b[i]? = some b[i] := List.getElem?_eq_getElem hi
   cases hc : b[i] != (32 : UInt8) with
   | true =>
    have : ¬ b[i] = 32 := by simpa using hc
    simp only [cond_true, e3, Option.some.injEq, this, and_false, if_false]
   | false =>
    have : b[i] = 32 := by simpa using hc
    have e4 := qY (a := 0) (b := i) (n := b.length) (by omega) (by omega)
    rw [show ((0 : Nat) : Int) = (0 : Int) from rfl] at e4
    simp only [cond_false, e4, Bool.true_and, cond_true, j7, e3, this]
    rw [wri (by omega) (by omega), if_pos ⟨by omega, trivial⟩]
    congr 2
theorem ze6 : jN 32 = false := by kernel_rfl
theorem zkH (N : Nat) (b : List UInt8) (hb : b.length <= 100000) (hN : b.length < N) : qL N b = zpi b := by
 unfold qL zpi qQ
 simp only [Option.bind_some]
 rcases ziC ze6 b 0 with h | ⟨i, h1, h2, h3, h4⟩
 ·rw [h]
  simp only [show decide ((-1 : Int) < 1) = true from rfl, cond_true]
  rw [if_neg]
  intro ⟨h1, h2⟩
  have hlt := (List.getElem?_eq_some_iff.1 h2).1
  rw [zdb ze6 b 0 hlt h2] at h
  omega
 ·rw [h1, Nat.zero_add]
  by_cases hi : i = 0
  ·subst hi
   simp only [show decide (((0 : Nat) : Int) < 1) = true from rfl, cond_true]
   rw [if_neg]
   intro ⟨h5, h6⟩
   have hlt := (List.getElem?_eq_some_iff.1 h6).1
   have := zdb ze6 b 0 hlt h6
   rw [h1] at this; omega
  ·have e1 : decide (((i : Nat) : Int) < 1) = false := by simp; omega
   have e4 := qY (a := 0) (b := i) (n := b.length) (by omega) (by omega)
   rw [show ((0 : Nat) : Int) = (0 : Int) from rfl] at e4
   simp only [e1, cond_false, e4, Bool.true_and, cond_true, Int.toNat_natCast, j7]
   have hl : (b.take i).length = i := by rw [List.length_take]; omega
   have e5 : ((b.take i) != ([] : List UInt8)) = true := by
    simp only [bne_iff_ne, ne_eq]
    intro e; rw [e] at hl; simp at hl; omega
   simp only [e5, cond_true]
   have := ztf N (b.take i) (by omega) N 0 (by omega) (by omega)
   rw [show ((0 : Nat) : Int) = (0 : Int) from rfl, List.drop_zero] at this
   rw [this]
   simp only [Option.bind_some]
   cases ha : (b.take i).all jN with
   | true =>
    simp only [if_true, zl]
    have hr := h4 ha
    rw [hr, if_pos ⟨by omega, h3⟩, wri (by omega) (by omega)]
    congr 2
   | false =>
    simp only [Bool.false_eq_true, if_false, zl]
    rw [if_neg]
    intro ⟨h5, h6⟩
    have hlt := (List.getElem?_eq_some_iff.1 h6).1
    have hf := zdb ze6 b 0 hlt h6
    rw [h1] at hf
    have hri : run jN b = i := by omega
    have := zhd jN b
    rw [hri] at this
    rw [this] at ha; cases ha
def sq : List UInt8 -> Option (List UInt8 × Nat)
 | [] => none
 | c :: l => if c = 34 then some ([], 1) else if c = 92 then match l with
  | [] => none
  | d :: l => if d = 34 \/ d = 92 then match sq l with
   | some (o, n) => some (d :: o, n + 2)
   | none => none
   else none
  else if zdB c = true then match sq l with
   | some (o, n) => some (c :: o, n + 1)
   | none => none
  else none
theorem zkl : ∀ (l : List UInt8) {o : List UInt8} {n : Nat}, sq l = some (o, n) -> n <= l.length /\ o.length < n
 | [], o, n, h => by cases h
 | c :: l, o, n, h => by
  unfold sq at h
  split at h
  ·cases h; simp
  ·split at h
   ·split at h
    ·cases h
    ·rename_i d l'
     split at h
     ·split at h
      ·rename_i o' n' h'
       have := zkl l' h'
       cases h
       simp; omega
      ·cases h
     ·cases h
   ·split at h
    ·split at h
     ·rename_i o' n' h'
      have := zkl l h'
      cases h
      simp; omega
     ·cases h
    ·cases h
theorem zbR {n : Nat} (h : n <= 200000) : Nat.blt n jd = true := by
 rw [Nat.blt_eq]; unfold jd; omega
theorem zj8 : zdB 34 = true := by kernel_rfl
theorem zkn : zdB 92 = true := by kernel_rfl
def QP (b out : List UInt8) (i : Nat) (o : Option (Bool × List UInt8 × Int × List UInt8)) : Prop := match sq (b.drop i) with
 | some (r, n) => o = some (true, b, ((i + n : Nat) : Int), out ++ r)
 | none => ∃ a o', o = some (false, b, a, o')
theorem zsH (N : Nat) (b : List UInt8) (hb : b.length <= 100000) : ∀ (m i : Nat) (out : List UInt8), i <= b.length -> out.length <= i -> b.length < m + i -> QP b out i (zM N m b (i : Int) out)
 | 0, i, out, h, ho, h' => by omega
 | m + 1, i, out, h, ho, h' => by
  unfold zM j8
  have d0 : decide ((i : Int) < 0) = false := by simp
  by_cases hi : i < b.length
  ·have d1 : decide (((b.length : Nat) : Int) <= (i : Int)) = false := by simp; omega
   have w1 : IntKind.wrap .i64 ((i : Int) + 1) = ((i + 1 : Nat) : Int) := by rw [wri (by omega) (by omega)]; omega
   have w2 : IntKind.wrap .i64 (((i + 1 : Nat) : Int) - 1) = (i : Int) := by rw [wri (by omega) (by omega)]; omega
   simp only [d0, d1, cond_false, w1, w2, zX hi, cond_true, Int.toNat_natCast, jH (u := .u8) hi]
   unfold QP
   rw [drop_one hi]
   unfold sq
   cases hc : b[i] == (34 : UInt8) with
   | true =>
    rw [beq_iff_eq] at hc
    simp [hc]
   | false =>
    have hc' : ¬ b[i] = 34 := by simpa using hc
    simp only [cond_false, hc', if_false]
    cases hd : b[i] == (92 : UInt8) with
    | true =>
     have hd' : b[i] = 92 := by simpa using hd
     have d2 : decide (((i + 1 : Nat) : Int) < 0) = false := by simp; omega
     simp only [cond_true, hd', if_true, d2, cond_false]
     by_cases hi2 : i + 1 < b.length
     ·have d3 : decide (((b.length : Nat) : Int) <= ((i + 1 : Nat) : Int)) = false := by simp; omega
      have w3 : IntKind.wrap .i64 (((i + 1 : Nat) : Int) + 1) = ((i + 2 : Nat) : Int) := by rw [wri (by omega) (by omega)]; omega
      have w4 : IntKind.wrap .i64 (((i + 2 : Nat) : Int) - 1) = ((i + 1 : Nat) : Int) := by rw [wri (by omega) (by omega)]; omega
      simp only [d3, cond_false, w3, w4, zX hi2, cond_true, Int.toNat_natCast, jH (u := .u8) hi2, zru, Option.bind_some, zbR (show out.length + 1 <= 200000 by omega)]
      have ih := zsH N b hb m (i + 2) (out ++ [b[i + 1]]) (by omega) (by simp; omega) (by omega)
      unfold QP at ih
      rw [drop_one hi2]
      simp only
      cases he : b[i + 1] != (34 : UInt8) with
      | true =>
       have he' : ¬ b[i + 1] = 34 := by simpa using he
       cases hf : b[i + 1] != (92 : UInt8) with
       | true =>
        have hf' : ¬ b[i + 1] = 92 := by simpa using hf
        simp only [cond_true, he', hf', or_self, if_false]
        exact ⟨_, _, rfl⟩
       | false =>
        have hf' : b[i + 1] = 92 := by simpa using hf
        rw [hf'] at ih
        simp only [cond_true, cond_false, hf', or_true, if_true, zkn, Bool.not_true]
        split at ih
        ·rename_i r n hr
         (first | simp only [hr] | skip)
         rw [ih]
         simp only [List.append_assoc, List.cons_append, List.nil_append, Option.some.injEq, Prod.mk.injEq, true_and, and_true]
         omega
        ·rename_i hr
         (first | simp only [hr] | skip)
         exact ih
      | false =>
       have he' : b[i + 1] = 34 := by simpa using he
       rw [he'] at ih
       simp only [cond_false, he', true_or, if_true, zj8, Bool.not_true]
       split at ih
       ·rename_i r n hr
        (first | simp only [hr] | skip)
        rw [ih]
        simp only [List.append_assoc, List.cons_append, List.nil_append, Option.some.injEq, Prod.mk.injEq, true_and, and_true]
        omega
       ·rename_i hr
        (first | simp only [hr] | skip)
        exact ih
     ·have d3 : decide (((b.length : Nat) : Int) <= ((i + 1 : Nat) : Int)) = true := by simp; omega
      rw [List.drop_eq_nil_of_le (by omega)]
      simp only [d3, cond_true]
      exact ⟨_, _, rfl⟩
    | false =>
     have hd' : ¬ b[i] = 92 := by simpa using hd
     simp only [cond_false, hd', if_false, zru, Option.bind_some, zbR (show out.length + 1 <= 200000 by omega), cond_true]
     cases ht : zdB b[i] with
     | true =>
      simp only [Bool.not_true, cond_false, if_true]
      have ih := zsH N b hb m (i + 1) (out ++ [b[i]]) (by omega) (by simp; omega) (by omega)
      unfold QP at ih
      split at ih
      ·rename_i r n hr
       (first | simp only [hr] | skip)
       rw [ih]
       simp only [List.append_assoc, List.cons_append, List.nil_append, Option.some.injEq, Prod.mk.injEq, true_and, and_true]
       omega
      ·rename_i hr
       (first | simp only [hr] | skip)
       exact ih
     | false =>
      simp only [Bool.not_false, cond_true, Bool.false_eq_true, if_false]
      exact ⟨_, _, rfl⟩
  ·have d1 : decide (((b.length : Nat) : Int) <= (i : Int)) = true := by simp; omega
   simp only [d0, d1, cond_false, cond_true]
   unfold QP
   rw [List.drop_eq_nil_of_le (by omega)]
   exact ⟨_, _, rfl⟩
def RQ (b out : List UInt8) (i : Nat) (o : Option (List UInt8 ⊕ (List UInt8 × Int × List UInt8))) : Prop := match sq (b.drop i) with
 | some (r, n) => ∃ k : Nat, i + n = k + 1 /\ k < b.length /\ o = some (Sum.inr (b, (k : Int), out ++ r))
 | none => (∃ o', o = some (Sum.inl o')) \/ ∃ o' k, ((b.length : Nat) : Int) <= k /\ o = some (Sum.inr (b, k, o'))
theorem zqh (N : Nat) (b : List UInt8) (hb : b.length <= 100000) : ∀ (m i : Nat) (out : List UInt8), i <= b.length -> out.length <= i -> b.length < m + i -> RQ b out i (zL N m b (i : Int) out)
 | 0, i, out, h, ho, h' => by omega
 | m + 1, i, out, h, ho, h' => by
  unfold zL j1
  by_cases hi : i < b.length
  ·have w1 : IntKind.wrap .i64 ((i : Int) + 1) = ((i + 1 : Nat) : Int) := by rw [wri (by omega) (by omega)]; omega
   simp only [zhN hi, w1, zX hi, cond_true, Int.toNat_natCast, jH (u := .u8) hi]
   unfold RQ
   rw [drop_one hi]
   unfold sq
   cases hc : b[i] != (34 : UInt8) with
   | false =>
    have hc' : b[i] = 34 := by simpa using hc
    simp only [cond_false, hc', if_true]
    exact ⟨i, rfl, hi, by simp⟩
   | true =>
    have hc' : ¬ b[i] = 34 := by simpa using hc
    simp only [cond_true, hc', if_false]
    cases hd : b[i] == (92 : UInt8) with
    | true =>
     have hd' : b[i] = 92 := by simpa using hd
     simp only [cond_true, hd', if_true]
     by_cases hi2 : i + 1 < b.length
     ·have d3 : decide (((b.length : Nat) : Int) <= ((i + 1 : Nat) : Int)) = false := by simp; omega
      have w3 : IntKind.wrap .i64 (((i + 1 : Nat) : Int) + 1) = ((i + 2 : Nat) : Int) := by rw [wri (by omega) (by omega)]; omega
      simp only [d3, cond_false, w3, zX hi2, cond_true, jH (u := .u8) hi2, zr4, Option.bind_some, zbR (show out.length + 1 <= 200000 by omega)]
      have ih := zqh N b hb m (i + 2) (out ++ [b[i + 1]]) (by omega) (by simp; omega) (by omega)
      unfold RQ at ih
      rw [drop_one hi2]
      simp only
      cases he : b[i + 1] != (34 : UInt8) with
      | true =>
       have he' : ¬ b[i + 1] = 34 := by simpa using he
       cases hf : b[i + 1] != (92 : UInt8) with
       | true =>
        have hf' : ¬ b[i + 1] = 92 := by simpa using hf
        simp only [cond_true, he', hf', or_self, if_false]
        exact .inl ⟨_, rfl⟩
       | false =>
        have hf' : b[i + 1] = 92 := by simpa using hf
        rw [hf'] at ih
        simp only [cond_true, cond_false, hf', or_true, if_true, zkn, Bool.not_true]
        split at ih
        ·rename_i r n hr
         (first | simp only [hr] | skip)
         obtain ⟨k, h1, h2, h3⟩ := ih
         refine ⟨k, by omega, h2, ?_⟩
         rw [h3]
         simp only [List.append_assoc, List.cons_append, List.nil_append]
        ·rename_i hr
         (first | simp only [hr] | skip)
         exact ih
      | false =>
       have he' : b[i + 1] = 34 := by simpa using he
       rw [he'] at ih
       simp only [cond_false, he', true_or, if_true, zj8, Bool.not_true]
       split at ih
       ·rename_i r n hr
        (first | simp only [hr] | skip)
        obtain ⟨k, h1, h2, h3⟩ := ih
        refine ⟨k, by omega, h2, ?_⟩
        rw [h3]
        simp only [List.append_assoc, List.cons_append, List.nil_append]
       ·rename_i hr
        (first | simp only [hr] | skip)
        exact ih
     ·have d3 : decide (((b.length : Nat) : Int) <= ((i + 1 : Nat) : Int)) = true := by simp; omega
      rw [List.drop_eq_nil_of_le (by omega)]
      simp only [d3, cond_true]
      exact .inl ⟨_, rfl⟩
    | false =>
     have hd' : ¬ b[i] = 92 := by simpa using hd
     simp only [cond_false, hd', if_false, zr4, Option.bind_some, zbR (show out.length + 1 <= 200000 by omega), cond_true]
     cases ht : zdB b[i] with
     | true =>
      simp only [Bool.not_true, cond_false, if_true]
      have ih := zqh N b hb m (i + 1) (out ++ [b[i]]) (by omega) (by simp; omega) (by omega)
      unfold RQ at ih
      split at ih
      ·rename_i r n hr
       (first | simp only [hr] | skip)
       obtain ⟨k, h1, h2, h3⟩ := ih
       refine ⟨k, by omega, h2, ?_⟩
       rw [h3]
       simp only [List.append_assoc, List.cons_append, List.nil_append]
      ·rename_i hr
       (first | simp only [hr] | skip)
       exact ih
     | false =>
      simp only [Bool.not_false, cond_true, Bool.false_eq_true, if_false]
      exact .inl ⟨_, rfl⟩
  ·simp only [zhM hi, cond_false]
   unfold RQ
   rw [List.drop_eq_nil_of_le (by omega)]
   exact .inr ⟨_, _, by omega, rfl⟩
def zqL (b : List UInt8) (i : Nat) : Option ((List UInt8) × Int × Bool × Unit) := some (match (if b[i]? = some 34 then sq (b.drop (i + 1)) else none) with
 | some (r, n) => (r, ((i + 1 + n : Nat) : Int), true, ())
 | none => ([], 0, false, ()))
theorem zoI (N : Nat) (b : List UInt8) (hb : b.length <= 100000) (hN : b.length < N) (i : Nat) (hi : i < b.length) : jw N b (i : Int) = zqL b i := by
 unfold jw zqL
 have d0 : decide ((i : Int) < 0) = false := by simp
 have d1 : decide (((b.length : Nat) : Int) <= (i : Int)) = false := by simp; omega
 have w1 : IntKind.wrap .i64 ((i : Int) + 1) = ((i + 1 : Nat) : Int) := by rw [wri (by omega) (by omega)]; omega
 have w2 : IntKind.wrap .i64 (((i + 1 : Nat) : Int) - 1) = (i : Int) := by rw [wri (by omega) (by omega)]; omega
 simp only [d0, d1, cond_false, w1, w2, zX hi, cond_true, Int.toNat_natCast, jH (u := .u8) hi, List.getElem?_eq_getElem hi, Option.some.injEq]
 cases hc : b[i] == (34 : UInt8) with
 | false =>
  have hc' : ¬ b[i] = 34 := by simpa using hc
  simp [hc']
 | true =>
  have hc' : b[i] = 34 := by simpa using hc
  have := zsH N b hb N (i + 1) [] (by omega) (by simp) (by omega)
  unfold QP at this
  simp only [hc', if_true, Bool.not_true, cond_false]
  split at this
  ·rename_i r n hr
   (first | simp only [hr] | skip)
   rw [this]; rfl
  ·rename_i hr
   (first | simp only [hr] | skip)
   obtain ⟨a, o', h⟩ := this
   rw [h]; rfl
theorem zpL (N : Nat) (b : List UInt8) (hb : b.length <= 100000) (hN : b.length < N) (i : Nat) (hi : i < b.length) : ju N b (i : Int) = zqL b i := by
 unfold ju zqL
 have d0 : decide ((i : Int) < 0) = false := by simp
 have d1 : decide (((b.length : Nat) : Int) <= (i : Int)) = false := by simp; omega
 have w1 : IntKind.wrap .i64 ((i : Int) + 1) = ((i + 1 : Nat) : Int) := by rw [wri (by omega) (by omega)]; omega
 simp only [d0, d1, cond_false, w1, zX hi, cond_true, Int.toNat_natCast, jH (u := .u8) hi, List.getElem?_eq_getElem hi, Option.some.injEq]
 cases hc : b[i] != (34 : UInt8) with
 | true =>
  have hc' : ¬ b[i] = 34 := by simpa using hc
  simp [hc']
 | false =>
  have hc' : b[i] = 34 := by simpa using hc
  have := zqh N b hb N (i + 1) [] (by omega) (by simp) (by omega)
  unfold RQ at this
  simp only [hc', if_true, cond_false]
  split at this
  ·rename_i r n hr
   (first | simp only [hr] | skip)
   obtain ⟨k, h1, h2, h3⟩ := this
   rw [h3]
   have d2 : decide (((b.length : Nat) : Int) <= (k : Int)) = false := by simp; omega
   simp only [Option.bind_some, zl, d2, cond_false, List.nil_append]
   rw [wri (by omega) (by omega)]
   simp only [Option.some.injEq, Prod.mk.injEq, true_and, and_true]
   omega
  ·rename_i hr
   (first | simp only [hr] | skip)
   rcases this with ⟨o', h⟩ | ⟨o', k, hk, h⟩
   ·rw [h]; rfl
   ·rw [h]
    have d2 : decide (((b.length : Nat) : Int) <= k) = true := by simpa using hk
    simp only [Option.bind_some, zl, d2, cond_true]
def dgt (n k : Nat) : UInt8 := UInt8.ofNat (48 + n / k % 10)
theorem zey (n : Nat) : Int.tmod ((n : Nat) : Int) 100 = ((n % 100 : Nat) : Int) := rfl
theorem zed (n : Nat) : Int.tmod ((n : Nat) : Int) 10000 = ((n % 10000 : Nat) : Int) := rfl
theorem zeo (n : Nat) : Int.tmod ((n : Nat) : Int) 100000000 = ((n % 100000000 : Nat) : Int) := rfl
theorem zeB (n : Nat) : Int.tdiv ((n : Nat) : Int) 100 = ((n / 100 : Nat) : Int) := rfl
theorem zes (n : Nat) : Int.tdiv ((n : Nat) : Int) 10000 = ((n / 10000 : Nat) : Int) := rfl
theorem zeq (n : Nat) : Int.tdiv ((n : Nat) : Int) 100000000 = ((n / 100000000 : Nat) : Int) := rfl
theorem ziE (n : Nat) : ((n : Nat) : Int) * 2 = ((n * 2 : Nat) : Int) := rfl
theorem zfm (n : Nat) : ((n : Nat) : Int) + 1 = ((n + 1 : Nat) : Int) := rfl
theorem zer (n : Nat) : (48 : Int) + ((n : Nat) : Int) = ((48 + n : Nat) : Int) := rfl
theorem zlG {n : Nat} (h : n < 4294967296) : IntKind.wrap .u32 ((n : Nat) : Int) = ((n : Nat) : Int) := by rw [IntKind.wrap_u32]; omega
theorem zgI {n : Nat} (h : n < 18446744073709551616) : IntKind.wrap .u64 ((n : Nat) : Int) = ((n : Nat) : Int) := by rw [IntKind.wrap_u64]; omega
theorem xQ {k : Nat} (h : k < 100) : nth .u8 zbA (k * 2) = UInt8.ofNat (48 + k / 10) := by
 have key : ((List.range 100).all fun k => nth .u8 zbA (k * 2) == UInt8.ofNat (48 + k / 10)) = true := by kernel_rfl
 rw [List.all_eq_true] at key
 exact beq_iff_eq.1 (key k (List.mem_range.2 h))
theorem zbG {k : Nat} (h : k < 100) : nth .u8 zbA (k * 2 + 1) = UInt8.ofNat (48 + k % 10) := by
 have key : ((List.range 100).all fun k => nth .u8 zbA (k * 2 + 1) == UInt8.ofNat (48 + k % 10)) = true := by kernel_rfl
 rw [List.all_eq_true] at key
 exact beq_iff_eq.1 (key k (List.mem_range.2 h))
theorem jS {n : Nat} (h : n < 256) : zav ((n : Nat) : Int) = UInt8.ofNat n := by
 unfold zav
 rw [IntKind.wrap_u8, show (((n : Nat) : Int) % 256).toNat = n by omega]
theorem kN {n a b : Nat} (h : a = n / b % 10) : UInt8.ofNat (48 + a) = dgt n b := by rw [h]; rfl
theorem zt0 (N n : Nat) (hN : 10 <= N) (h1 : 100 <= n) (h2 : n < 1000) (hm : n < 4294967296) (hd : zv N ((n : Nat) : Int) = some ((3 : Int), ())) : zq N ((n : Nat) : Int) = some ([dgt n 100, dgt n 10, dgt n 1], ()) := by
 obtain ⟨m, hm2⟩ : ∃ m, N = m + 2 := ⟨N - 2, by omega⟩
 have hl : zd N N = zd N (m + 2) := congrArg _ hm2
 have c0 : decide (((n : Nat) : Int) < 100) = false := by simp; omega
 unfold zq
 simp only [zgI (show n < 18446744073709551616 by omega)]
 simp only [hd, hl, Option.bind_some, c0, cond_false, cond_true, show js (0 : Int) (3 : Int) 24 = true from rfl, show ((Int.toNat (3 : Int)) - 0 : Nat) = 3 from rfl]
 unfold zd zw
 simp (disch := omega) only [zlG, zgI, zey, zed, zeo, zeB, zes, zeq, ziE, zfm, zer, Int.toNat_natCast, zX, xQ, zbG, jS, cond_true, cond_false, Option.bind_some,
  show inb (0 : Int) 3 = true from rfl, show inb (1 : Int) 3 = true from rfl, show inb (2 : Int) 3 = true from rfl, show (0 + Int.toNat (1 : Int) : Nat) = 1 from rfl, show (0 + Int.toNat (2 : Int) : Nat) = 2 from rfl, show (0 + 0 : Nat) = 0 from rfl, show (0 + 3 : Nat) = 3 from rfl, show decide ((8 : Int) <= ((3 : Nat) : Int)) = false from rfl, show decide ((4 : Int) <= ((3 : Nat) : Int)) = false from rfl, show decide ((2 : Int) <= ((3 : Nat) : Int)) = true from rfl, show IntKind.wrap .i64 (((3 : Nat) : Int) - (1 : Int)) = (2 : Int) from rfl, show IntKind.wrap .i64 (((3 : Nat) : Int) - (2 : Int)) = (1 : Int) from rfl, show decide ((0 : Int) < (1 : Int)) = true from rfl]
 simp only [slice, List.set_cons_succ, List.set_cons_zero, List.drop_zero, List.take_succ_cons, List.take_zero, Nat.sub_zero, Option.some.injEq, Prod.mk.injEq, List.cons.injEq, and_true]
 refine ⟨?_, ?_, ?_⟩ <;> exact kN (by omega)
theorem zt5 (N n : Nat) (hN : 10 <= N) (h1 : 1000 <= n) (h2 : n < 10000) (hm : n < 4294967296) (hd : zv N ((n : Nat) : Int) = some ((4 : Int), ())) : zq N ((n : Nat) : Int) = some ([dgt n 1000, dgt n 100, dgt n 10, dgt n 1], ()) := by
 obtain ⟨m, hm2⟩ : ∃ m, N = m + 2 := ⟨N - 2, by omega⟩
 have hl : zd N N = zd N (m + 2) := congrArg _ hm2
 have c0 : decide (((n : Nat) : Int) < 100) = false := by simp; omega
 unfold zq
 simp only [zgI (show n < 18446744073709551616 by omega)]
 simp only [hd, hl, Option.bind_some, c0, cond_false, cond_true, show js (0 : Int) (4 : Int) 24 = true from rfl, show ((Int.toNat (4 : Int)) - 0 : Nat) = 4 from rfl]
 unfold zd zw
 simp (disch := omega) only [zlG, zgI, zey, zed, zeo, zeB, zes, zeq, ziE, zfm, zer, Int.toNat_natCast, zX, xQ, zbG, jS, cond_true, cond_false, Option.bind_some,
  show inb (0 : Int) 4 = true from rfl, show inb (1 : Int) 4 = true from rfl, show inb (2 : Int) 4 = true from rfl, show inb (3 : Int) 4 = true from rfl, show (0 + Int.toNat (0 : Int) : Nat) = 0 from rfl, show (0 + Int.toNat (1 : Int) : Nat) = 1 from rfl, show (0 + Int.toNat (2 : Int) : Nat) = 2 from rfl, show (0 + Int.toNat (3 : Int) : Nat) = 3 from rfl, show (0 + 0 : Nat) = 0 from rfl, show (0 + 4 : Nat) = 4 from rfl, show decide ((8 : Int) <= ((4 : Nat) : Int)) = false from rfl, show decide ((4 : Int) <= ((4 : Nat) : Int)) = true from rfl, show IntKind.wrap .i64 (((4 : Nat) : Int) - (1 : Int)) = (3 : Int) from rfl, show IntKind.wrap .i64 (((4 : Nat) : Int) - (2 : Int)) = (2 : Int) from rfl, show IntKind.wrap .i64 (((4 : Nat) : Int) - (3 : Int)) = (1 : Int) from rfl, show IntKind.wrap .i64 (((4 : Nat) : Int) - (4 : Int)) = (0 : Int) from rfl, show decide ((2 : Int) <= (0 : Int)) = false from rfl, show decide ((0 : Int) < (0 : Int)) = false from rfl]
 simp only [slice, List.set_cons_succ, List.set_cons_zero, List.drop_zero, List.take_succ_cons, List.take_zero, Nat.sub_zero, Option.some.injEq, Prod.mk.injEq, List.cons.injEq, and_true]
 refine ⟨?_, ?_, ?_, ?_⟩ <;> exact kN (by omega)
theorem zuT (N n : Nat) (hN : 10 <= N) (h1 : 10000 <= n) (h2 : n < 100000) (hm : n < 4294967296) (hd : zv N ((n : Nat) : Int) = some ((5 : Int), ())) : zq N ((n : Nat) : Int) = some ([dgt n 10000, dgt n 1000, dgt n 100, dgt n 10, dgt n 1], ()) := by
 obtain ⟨m, hm2⟩ : ∃ m, N = m + 2 := ⟨N - 2, by omega⟩
 have hl : zd N N = zd N (m + 2) := congrArg _ hm2
 have c0 : decide (((n : Nat) : Int) < 100) = false := by simp; omega
 unfold zq
 simp only [zgI (show n < 18446744073709551616 by omega)]
 simp only [hd, hl, Option.bind_some, c0, cond_false, cond_true, show js (0 : Int) (5 : Int) 24 = true from rfl, show ((Int.toNat (5 : Int)) - 0 : Nat) = 5 from rfl]
 unfold zd zw
 simp (disch := omega) only [zlG, zgI, zey, zed, zeo, zeB, zes, zeq, ziE, zfm, zer, Int.toNat_natCast, zX, xQ, zbG, jS, cond_true, cond_false, Option.bind_some,
  show inb (0 : Int) 5 = true from rfl, show inb (1 : Int) 5 = true from rfl, show inb (2 : Int) 5 = true from rfl, show inb (3 : Int) 5 = true from rfl, show inb (4 : Int) 5 = true from rfl, show (0 + Int.toNat (1 : Int) : Nat) = 1 from rfl, show (0 + Int.toNat (2 : Int) : Nat) = 2 from rfl, show (0 + Int.toNat (3 : Int) : Nat) = 3 from rfl, show (0 + Int.toNat (4 : Int) : Nat) = 4 from rfl, show (0 + 0 : Nat) = 0 from rfl, show (0 + 5 : Nat) = 5 from rfl, show decide ((8 : Int) <= ((5 : Nat) : Int)) = false from rfl, show decide ((4 : Int) <= ((5 : Nat) : Int)) = true from rfl, show IntKind.wrap .i64 (((5 : Nat) : Int) - (1 : Int)) = (4 : Int) from rfl, show IntKind.wrap .i64 (((5 : Nat) : Int) - (2 : Int)) = (3 : Int) from rfl, show IntKind.wrap .i64 (((5 : Nat) : Int) - (3 : Int)) = (2 : Int) from rfl, show IntKind.wrap .i64 (((5 : Nat) : Int) - (4 : Int)) = (1 : Int) from rfl, show decide ((2 : Int) <= (1 : Int)) = false from rfl, show decide ((0 : Int) < (1 : Int)) = true from rfl]
 simp only [slice, List.set_cons_succ, List.set_cons_zero, List.drop_zero, List.take_succ_cons, List.take_zero, Nat.sub_zero, Option.some.injEq, Prod.mk.injEq, List.cons.injEq, and_true]
 refine ⟨?_, ?_, ?_, ?_, ?_⟩ <;> exact kN (by omega)
theorem zuK (N n : Nat) (hN : 10 <= N) (h1 : 100000 <= n) (h2 : n < 1000000) (hm : n < 4294967296) (hd : zv N ((n : Nat) : Int) = some ((6 : Int), ())) : zq N ((n : Nat) : Int) = some ([dgt n 100000, dgt n 10000, dgt n 1000, dgt n 100, dgt n 10, dgt n 1], ()) := by
 obtain ⟨m, hm2⟩ : ∃ m, N = m + 2 := ⟨N - 2, by omega⟩
 have hl : zd N N = zd N (m + 2) := congrArg _ hm2
 have c0 : decide (((n : Nat) : Int) < 100) = false := by simp; omega
 unfold zq
 simp only [zgI (show n < 18446744073709551616 by omega)]
 simp only [hd, hl, Option.bind_some, c0, cond_false, cond_true, show js (0 : Int) (6 : Int) 24 = true from rfl, show ((Int.toNat (6 : Int)) - 0 : Nat) = 6 from rfl]
 unfold zd zw
 simp (disch := omega) only [zlG, zgI, zey, zed, zeo, zeB, zes, zeq, ziE, zfm, zer, Int.toNat_natCast, zX, xQ, zbG, jS, cond_true, cond_false, Option.bind_some,
  show inb (0 : Int) 6 = true from rfl, show inb (1 : Int) 6 = true from rfl, show inb (2 : Int) 6 = true from rfl, show inb (3 : Int) 6 = true from rfl, show inb (4 : Int) 6 = true from rfl, show inb (5 : Int) 6 = true from rfl, show (0 + Int.toNat (0 : Int) : Nat) = 0 from rfl, show (0 + Int.toNat (1 : Int) : Nat) = 1 from rfl, show (0 + Int.toNat (2 : Int) : Nat) = 2 from rfl, show (0 + Int.toNat (3 : Int) : Nat) = 3 from rfl, show (0 + Int.toNat (4 : Int) : Nat) = 4 from rfl, show (0 + Int.toNat (5 : Int) : Nat) = 5 from rfl, show (0 + 0 : Nat) = 0 from rfl, show (0 + 6 : Nat) = 6 from rfl, show decide ((8 : Int) <= ((6 : Nat) : Int)) = false from rfl, show decide ((4 : Int) <= ((6 : Nat) : Int)) = true from rfl, show IntKind.wrap .i64 (((6 : Nat) : Int) - (1 : Int)) = (5 : Int) from rfl, show IntKind.wrap .i64 (((6 : Nat) : Int) - (2 : Int)) = (4 : Int) from rfl, show IntKind.wrap .i64 (((6 : Nat) : Int) - (3 : Int)) = (3 : Int) from rfl, show IntKind.wrap .i64 (((6 : Nat) : Int) - (4 : Int)) = (2 : Int) from rfl, show decide ((2 : Int) <= (2 : Int)) = true from rfl, show IntKind.wrap .i64 ((2 : Int) - (1 : Int)) = (1 : Int) from rfl, show IntKind.wrap .i64 ((2 : Int) - (2 : Int)) = (0 : Int) from rfl, show decide ((0 : Int) < (0 : Int)) = false from rfl]
 simp only [slice, List.set_cons_succ, List.set_cons_zero, List.drop_zero, List.take_succ_cons, List.take_zero, Nat.sub_zero, Option.some.injEq, Prod.mk.injEq, List.cons.injEq, and_true]
 refine ⟨?_, ?_, ?_, ?_, ?_, ?_⟩ <;> exact kN (by omega)
theorem zt7 (N n : Nat) (hN : 10 <= N) (h1 : 1000000 <= n) (h2 : n < 10000000) (hm : n < 4294967296) (hd : zv N ((n : Nat) : Int) = some ((7 : Int), ())) : zq N ((n : Nat) : Int) = some ([dgt n 1000000, dgt n 100000, dgt n 10000, dgt n 1000, dgt n 100, dgt n 10, dgt n 1], ()) := by
 obtain ⟨m, hm2⟩ : ∃ m, N = m + 2 := ⟨N - 2, by omega⟩
 have hl : zd N N = zd N (m + 2) := congrArg _ hm2
 have c0 : decide (((n : Nat) : Int) < 100) = false := by simp; omega
 unfold zq
 simp only [zgI (show n < 18446744073709551616 by omega)]
 simp only [hd, hl, Option.bind_some, c0, cond_false, cond_true, show js (0 : Int) (7 : Int) 24 = true from rfl, show ((Int.toNat (7 : Int)) - 0 : Nat) = 7 from rfl]
 unfold zd zw
 simp (disch := omega) only [zlG, zgI, zey, zed, zeo, zeB, zes, zeq, ziE, zfm, zer, Int.toNat_natCast, zX, xQ, zbG, jS, cond_true, cond_false, Option.bind_some,
  show inb (0 : Int) 7 = true from rfl, show inb (1 : Int) 7 = true from rfl, show inb (2 : Int) 7 = true from rfl, show inb (3 : Int) 7 = true from rfl, show inb (4 : Int) 7 = true from rfl, show inb (5 : Int) 7 = true from rfl, show inb (6 : Int) 7 = true from rfl, show (0 + Int.toNat (1 : Int) : Nat) = 1 from rfl, show (0 + Int.toNat (2 : Int) : Nat) = 2 from rfl, show (0 + Int.toNat (3 : Int) : Nat) = 3 from rfl, show (0 + Int.toNat (4 : Int) : Nat) = 4 from rfl, show (0 + Int.toNat (5 : Int) : Nat) = 5 from rfl, show (0 + Int.toNat (6 : Int) : Nat) = 6 from rfl, show (0 + 0 : Nat) = 0 from rfl, show (0 + 7 : Nat) = 7 from rfl, show decide ((8 : Int) <= ((7 : Nat) : Int)) = false from rfl, show decide ((4 : Int) <= ((7 : Nat) : Int)) = true from rfl, show IntKind.wrap .i64 (((7 : Nat) : Int) - (1 : Int)) = (6 : Int) from rfl, show IntKind.wrap .i64 (((7 : Nat) : Int) - (2 : Int)) = (5 : Int) from rfl, show IntKind.wrap .i64 (((7 : Nat) : Int) - (3 : Int)) = (4 : Int) from rfl, show IntKind.wrap .i64 (((7 : Nat) : Int) - (4 : Int)) = (3 : Int) from rfl, show decide ((2 : Int) <= (3 : Int)) = true from rfl, show IntKind.wrap .i64 ((3 : Int) - (1 : Int)) = (2 : Int) from rfl, show IntKind.wrap .i64 ((3 : Int) - (2 : Int)) = (1 : Int) from rfl, show decide ((0 : Int) < (1 : Int)) = true from rfl]
 simp only [slice, List.set_cons_succ, List.set_cons_zero, List.drop_zero, List.take_succ_cons, List.take_zero, Nat.sub_zero, Option.some.injEq, Prod.mk.injEq, List.cons.injEq, and_true]
 refine ⟨?_, ?_, ?_, ?_, ?_, ?_, ?_⟩ <;> exact kN (by omega)
theorem zt1 (N n : Nat) (hN : 10 <= N) (h1 : 10000000 <= n) (h2 : n < 100000000) (hm : n < 4294967296) (hd : zv N ((n : Nat) : Int) = some ((8 : Int), ())) : zq N ((n : Nat) : Int) = some ([dgt n 10000000, dgt n 1000000, dgt n 100000, dgt n 10000, dgt n 1000, dgt n 100, dgt n 10, dgt n 1], ()) := by
 obtain ⟨m, hm2⟩ : ∃ m, N = m + 2 := ⟨N - 2, by omega⟩
 have hl : zd N N = zd N (m + 2) := congrArg _ hm2
 have c0 : decide (((n : Nat) : Int) < 100) = false := by simp; omega
 unfold zq
 simp only [zgI (show n < 18446744073709551616 by omega)]
 simp only [hd, hl, Option.bind_some, c0, cond_false, cond_true, show js (0 : Int) (8 : Int) 24 = true from rfl, show ((Int.toNat (8 : Int)) - 0 : Nat) = 8 from rfl]
 unfold zd zw
 unfold zd zw
 simp (disch := omega) only [zlG, zgI, zey, zed, zeo, zeB, zes, zeq, ziE, zfm, zer, Int.toNat_natCast, zX, xQ, zbG, jS, cond_true, cond_false, Option.bind_some,
  show inb (0 : Int) 8 = true from rfl, show inb (1 : Int) 8 = true from rfl, show inb (2 : Int) 8 = true from rfl, show inb (3 : Int) 8 = true from rfl, show inb (4 : Int) 8 = true from rfl, show inb (5 : Int) 8 = true from rfl, show inb (6 : Int) 8 = true from rfl, show inb (7 : Int) 8 = true from rfl, show (0 + Int.toNat (0 : Int) : Nat) = 0 from rfl, show (0 + Int.toNat (1 : Int) : Nat) = 1 from rfl, show (0 + Int.toNat (2 : Int) : Nat) = 2 from rfl, show (0 + Int.toNat (3 : Int) : Nat) = 3 from rfl, show (0 + Int.toNat (4 : Int) : Nat) = 4 from rfl, show (0 + Int.toNat (5 : Int) : Nat) = 5 from rfl, show (0 + Int.toNat (6 : Int) : Nat) = 6 from rfl, show (0 + Int.toNat (7 : Int) : Nat) = 7 from rfl, show (0 + 0 : Nat) = 0 from rfl, show (0 + 8 : Nat) = 8 from rfl, show decide ((8 : Int) <= ((8 : Nat) : Int)) = true from rfl, show IntKind.wrap .i64 (((8 : Nat) : Int) - (1 : Int)) = (7 : Int) from rfl, show IntKind.wrap .i64 (((8 : Nat) : Int) - (2 : Int)) = (6 : Int) from rfl, show IntKind.wrap .i64 (((8 : Nat) : Int) - (3 : Int)) = (5 : Int) from rfl, show IntKind.wrap .i64 (((8 : Nat) : Int) - (4 : Int)) = (4 : Int) from rfl, show IntKind.wrap .i64 (((8 : Nat) : Int) - (5 : Int)) = (3 : Int) from rfl, show IntKind.wrap .i64 (((8 : Nat) : Int) - (6 : Int)) = (2 : Int) from rfl, show IntKind.wrap .i64 (((8 : Nat) : Int) - (7 : Int)) = (1 : Int) from rfl, show IntKind.wrap .i64 (((8 : Nat) : Int) - (8 : Int)) = (0 : Int) from rfl, show decide ((8 : Int) <= (0 : Int)) = false from rfl, show decide ((4 : Int) <= (0 : Int)) = false from rfl, show decide ((2 : Int) <= (0 : Int)) = false from rfl, show decide ((0 : Int) < (0 : Int)) = false from rfl]
 simp only [slice, List.set_cons_succ, List.set_cons_zero, List.drop_zero, List.take_succ_cons, List.take_zero, Nat.sub_zero, Option.some.injEq, Prod.mk.injEq, List.cons.injEq, and_true]
 refine ⟨?_, ?_, ?_, ?_, ?_, ?_, ?_, ?_⟩ <;> exact kN (by omega)
theorem zuF (N n : Nat) (hN : 10 <= N) (h1 : 100000000 <= n) (h2 : n < 1000000000) (hm : n < 4294967296) (hd : zv N ((n : Nat) : Int) = some ((9 : Int), ())) : zq N ((n : Nat) : Int) = some ([dgt n 100000000, dgt n 10000000, dgt n 1000000, dgt n 100000, dgt n 10000, dgt n 1000, dgt n 100, dgt n 10, dgt n 1], ()) := by
 obtain ⟨m, hm2⟩ : ∃ m, N = m + 2 := ⟨N - 2, by omega⟩
 have hl : zd N N = zd N (m + 2) := congrArg _ hm2
 have c0 : decide (((n : Nat) : Int) < 100) = false := by simp; omega
 unfold zq
 simp only [zgI (show n < 18446744073709551616 by omega)]
 simp only [hd, hl, Option.bind_some, c0, cond_false, cond_true, show js (0 : Int) (9 : Int) 24 = true from rfl, show ((Int.toNat (9 : Int)) - 0 : Nat) = 9 from rfl]
 unfold zd zw
 unfold zd zw
 simp (disch := omega) only [zlG, zgI, zey, zed, zeo, zeB, zes, zeq, ziE, zfm, zer, Int.toNat_natCast, zX, xQ, zbG, jS, cond_true, cond_false, Option.bind_some,
  show inb (0 : Int) 9 = true from rfl, show inb (1 : Int) 9 = true from rfl, show inb (2 : Int) 9 = true from rfl, show inb (3 : Int) 9 = true from rfl, show inb (4 : Int) 9 = true from rfl, show inb (5 : Int) 9 = true from rfl, show inb (6 : Int) 9 = true from rfl, show inb (7 : Int) 9 = true from rfl, show inb (8 : Int) 9 = true from rfl, show (0 + Int.toNat (1 : Int) : Nat) = 1 from rfl, show (0 + Int.toNat (2 : Int) : Nat) = 2 from rfl, show (0 + Int.toNat (3 : Int) : Nat) = 3 from rfl, show (0 + Int.toNat (4 : Int) : Nat) = 4 from rfl, show (0 + Int.toNat (5 : Int) : Nat) = 5 from rfl, show (0 + Int.toNat (6 : Int) : Nat) = 6 from rfl, show (0 + Int.toNat (7 : Int) : Nat) = 7 from rfl, show (0 + Int.toNat (8 : Int) : Nat) = 8 from rfl, show (0 + 0 : Nat) = 0 from rfl, show (0 + 9 : Nat) = 9 from rfl, show decide ((8 : Int) <= ((9 : Nat) : Int)) = true from rfl, show IntKind.wrap .i64 (((9 : Nat) : Int) - (1 : Int)) = (8 : Int) from rfl, show IntKind.wrap .i64 (((9 : Nat) : Int) - (2 : Int)) = (7 : Int) from rfl, show IntKind.wrap .i64 (((9 : Nat) : Int) - (3 : Int)) = (6 : Int) from rfl, show IntKind.wrap .i64 (((9 : Nat) : Int) - (4 : Int)) = (5 : Int) from rfl, show IntKind.wrap .i64 (((9 : Nat) : Int) - (5 : Int)) = (4 : Int) from rfl, show IntKind.wrap .i64 (((9 : Nat) : Int) - (6 : Int)) = (3 : Int) from rfl, show IntKind.wrap .i64 (((9 : Nat) : Int) - (7 : Int)) = (2 : Int) from rfl, show IntKind.wrap .i64 (((9 : Nat) : Int) - (8 : Int)) = (1 : Int) from rfl, show decide ((8 : Int) <= (1 : Int)) = false from rfl, show decide ((4 : Int) <= (1 : Int)) = false from rfl, show decide ((2 : Int) <= (1 : Int)) = false from rfl, show decide ((0 : Int) < (1 : Int)) = true from rfl]
 simp only [slice, List.set_cons_succ, List.set_cons_zero, List.drop_zero, List.take_succ_cons, List.take_zero, Nat.sub_zero, Option.some.injEq, Prod.mk.injEq, List.cons.injEq, and_true]
 refine ⟨?_, ?_, ?_, ?_, ?_, ?_, ?_, ?_, ?_⟩ <;> exact kN (by omega)
theorem zsw (N n : Nat) (hN : 10 <= N) (h1 : 1000000000 <= n) (h2 : n < 10000000000) (hm : n < 4294967296) (hd : zv N ((n : Nat) : Int) = some ((10 : Int), ())) : zq N ((n : Nat) : Int) = some ([dgt n 1000000000, dgt n 100000000, dgt n 10000000, dgt n 1000000, dgt n 100000, dgt n 10000, dgt n 1000, dgt n 100, dgt n 10, dgt n 1], ()) := by
 obtain ⟨m, hm2⟩ : ∃ m, N = m + 2 := ⟨N - 2, by omega⟩
 have hl : zd N N = zd N (m + 2) := congrArg _ hm2
 have c0 : decide (((n : Nat) : Int) < 100) = false := by simp; omega
 unfold zq
 simp only [zgI (show n < 18446744073709551616 by omega)]
 simp only [hd, hl, Option.bind_some, c0, cond_false, cond_true, show js (0 : Int) (10 : Int) 24 = true from rfl, show ((Int.toNat (10 : Int)) - 0 : Nat) = 10 from rfl]
 unfold zd zw
 unfold zd zw
 simp (disch := omega) only [zlG, zgI, zey, zed, zeo, zeB, zes, zeq, ziE, zfm, zer, Int.toNat_natCast, zX, xQ, zbG, jS, cond_true, cond_false, Option.bind_some,
  show inb (0 : Int) 10 = true from rfl, show inb (1 : Int) 10 = true from rfl, show inb (2 : Int) 10 = true from rfl, show inb (3 : Int) 10 = true from rfl, show inb (4 : Int) 10 = true from rfl, show inb (5 : Int) 10 = true from rfl, show inb (6 : Int) 10 = true from rfl, show inb (7 : Int) 10 = true from rfl, show inb (8 : Int) 10 = true from rfl, show inb (9 : Int) 10 = true from rfl, show (0 + Int.toNat (0 : Int) : Nat) = 0 from rfl, show (0 + Int.toNat (1 : Int) : Nat) = 1 from rfl, show (0 + Int.toNat (2 : Int) : Nat) = 2 from rfl, show (0 + Int.toNat (3 : Int) : Nat) = 3 from rfl, show (0 + Int.toNat (4 : Int) : Nat) = 4 from rfl, show (0 + Int.toNat (5 : Int) : Nat) = 5 from rfl, show (0 + Int.toNat (6 : Int) : Nat) = 6 from rfl, show (0 + Int.toNat (7 : Int) : Nat) = 7 from rfl, show (0 + Int.toNat (8 : Int) : Nat) = 8 from rfl, show (0 + Int.toNat (9 : Int) : Nat) = 9 from rfl, show (0 + 0 : Nat) = 0 from rfl, show (0 + 10 : Nat) = 10 from rfl, show decide ((8 : Int) <= ((10 : Nat) : Int)) = true from rfl, show IntKind.wrap .i64 (((10 : Nat) : Int) - (1 : Int)) = (9 : Int) from rfl, show IntKind.wrap .i64 (((10 : Nat) : Int) - (2 : Int)) = (8 : Int) from rfl, show IntKind.wrap .i64 (((10 : Nat) : Int) - (3 : Int)) = (7 : Int) from rfl, show IntKind.wrap .i64 (((10 : Nat) : Int) - (4 : Int)) = (6 : Int) from rfl, show IntKind.wrap .i64 (((10 : Nat) : Int) - (5 : Int)) = (5 : Int) from rfl, show IntKind.wrap .i64 (((10 : Nat) : Int) - (6 : Int)) = (4 : Int) from rfl, show IntKind.wrap .i64 (((10 : Nat) : Int) - (7 : Int)) = (3 : Int) from rfl, show IntKind.wrap .i64 (((10 : Nat) : Int) - (8 : Int)) = (2 : Int) from rfl, show decide ((8 : Int) <= (2 : Int)) = false from rfl, show decide ((4 : Int) <= (2 : Int)) = false from rfl, show decide ((2 : Int) <= (2 : Int)) = true from rfl, show IntKind.wrap .i64 ((2 : Int) - (1 : Int)) = (1 : Int) from rfl, show IntKind.wrap .i64 ((2 : Int) - (2 : Int)) = (0 : Int) from rfl, show decide ((0 : Int) < (0 : Int)) = false from rfl]
 simp only [slice, List.set_cons_succ, List.set_cons_zero, List.drop_zero, List.take_succ_cons, List.take_zero, Nat.sub_zero, Option.some.injEq, Prod.mk.injEq, List.cons.injEq, and_true]
 refine ⟨?_, ?_, ?_, ?_, ?_, ?_, ?_, ?_, ?_, ?_⟩ <;> exact kN (by omega)
theorem znf (n m : Nat) : Int.fdiv ((n : Nat) : Int) ((m : Nat) : Int) = ((n / m : Nat) : Int) := by
 rw [Int.fdiv_eq_ediv_of_nonneg _ (by omega)]; rfl
theorem p8 : ((2 : Int) ^ (min (Int.toNat (8 : Int)) (IntKind.bits .u64))) = ((256 : Nat) : Int) := rfl
theorem p16 : ((2 : Int) ^ (min (Int.toNat (16 : Int)) (IntKind.bits .u64))) = ((65536 : Nat) : Int) := rfl
theorem p18 : ((2 : Int) ^ (min (Int.toNat (18 : Int)) (IntKind.bits .i64))) = ((262144 : Nat) : Int) := rfl
def tL (k : Nat) : Nat := (nth .u8 znU k).toNat
theorem znK {k : Nat} (h : k < 256) (h0 : 0 < k) : 2 ^ (tL k - 1) <= k /\ k < 2 ^ tL k /\ 1 <= tL k /\ tL k <= 8 := by
 have key : ((List.range 256).all fun k => k == 0 || (Nat.ble (2 ^ (tL k - 1)) k && (Nat.blt k (2 ^ tL k) && (Nat.ble 1 (tL k) && Nat.ble (tL k) 8)))) = true := by kernel_rfl
 rw [List.all_eq_true] at key
 have := key k (List.mem_range.2 h)
 simp only [Bool.or_eq_true, Bool.and_eq_true, beq_iff_eq, Nat.blt_eq] at this
 rcases this with h1 | ⟨h1, h2, h3, h4⟩
 ·omega
 ·exact ⟨Nat.le_of_ble_eq_true h1, h2, Nat.le_of_ble_eq_true h3, Nat.le_of_ble_eq_true h4⟩
theorem u8n {k : Nat} (h : k < 256) : UInt8.toNat (zav ((k : Nat) : Int)) = k := by
 rw [jS h, UInt8.toNat_ofNat']; omega
theorem zsS (N n : Nat) (h0 : 0 < n) (h : n < 4294967296) : ∃ L : Nat, 1 <= L /\ L <= 32 /\ 2 ^ (L - 1) <= n /\ n < 2 ^ L /\ jG N ((n : Nat) : Int) = some ((L : Int), ()) := by
 have c1 : decide ((4294967296 : Int) <= ((n : Nat) : Int)) = false := by simp; omega
 unfold jG
 simp only [c1, cond_false, p8, p16, znf]
 have fin : ∀ (b k : Nat), k < 256 -> 0 < k -> b <= 24 -> 2 ^ b * k <= n -> n < 2 ^ b * (k + 1) -> ∃ L : Nat, 1 <= L /\ L <= 32 /\ 2 ^ (L - 1) <= n /\ n < 2 ^ L /\ (some (((b + tL k : Nat) : Int), ()) : Option (Int × Unit)) = some ((L : Int), ()) := by
  intro b k hk hk0 hb h1 h2
  obtain ⟨q1, q2, q3, q4⟩ := znK hk hk0
  refine ⟨b + tL k, by omega, by omega, ?_, ?_, rfl⟩
  ·rw [show b + tL k - 1 = b + (tL k - 1) by omega, Nat.pow_add]
   exact Nat.le_trans (Nat.mul_le_mul_left _ q1) h1
  ·rw [Nat.pow_add]
   exact Nat.lt_of_lt_of_le h2 (Nat.mul_le_mul_left _ q2)
 have val : ∀ (b k : Nat), k < 256 -> b <= 24 -> 0 < k -> IntKind.wrap .i64 (((b : Nat) : Int) + IntKind.wrap .i64 ((UInt8.toNat (nth .u8 znU (Int.toNat ((UInt8.toNat (zav ((k : Nat) : Int)) : Nat) : Int))) : Nat) : Int)) = ((b + tL k : Nat) : Int) := by
  intro b k hk hb hk0
  have := znK hk hk0
  rw [u8n hk, Int.toNat_natCast]
  show IntKind.wrap .i64 (((b : Nat) : Int) + IntKind.wrap .i64 ((tL k : Nat) : Int)) = _
  rw [wri (x := ((tL k : Nat) : Int)) (by omega) (by omega), wri (by omega) (by omega)]; omega
 by_cases a1 : 65536 <= n
 ·have c2 : decide ((65536 : Int) <= ((n : Nat) : Int)) = true := by simp; omega
  simp only [c2, cond_true]
  by_cases a2 : 256 <= n / 65536
  ·have c3 : decide ((256 : Int) <= ((n / 65536 : Nat) : Int)) = true := by simp only [decide_eq_true_eq]; omega
   have hk : n / 65536 / 256 < 256 := by omega
   simp only [c3, cond_true]
   rw [u8n hk, zX hk, cond_true, <- u8n hk]
   have := val 24 (n / 65536 / 256) hk (by omega) (by omega)
   rw [u8n hk] at this |-
   rw [show ((24 : Nat) : Int) = (24 : Int) from rfl] at this
   rw [this]
   exact fin 24 _ hk (by omega) (by omega) (by omega) (by omega)
  ·have c3 : decide ((256 : Int) <= ((n / 65536 : Nat) : Int)) = false := by simp only [decide_eq_false_iff_not]; omega
   have hk : n / 65536 < 256 := by omega
   simp only [c3, cond_false]
   rw [u8n hk, zX hk, cond_true]
   have := val 16 (n / 65536) hk (by omega) (by omega)
   rw [u8n hk, show ((16 : Nat) : Int) = (16 : Int) from rfl] at this
   rw [this]
   exact fin 16 _ hk (by omega) (by omega) (by omega) (by omega)
 ·have c2 : decide ((65536 : Int) <= ((n : Nat) : Int)) = false := by simp; omega
  simp only [c2, cond_false]
  by_cases a2 : 256 <= n
  ·have c3 : decide ((256 : Int) <= ((n : Nat) : Int)) = true := by simp; omega
   have hk : n / 256 < 256 := by omega
   simp only [c3, cond_true]
   rw [u8n hk, zX hk, cond_true]
   have := val 8 (n / 256) hk (by omega) (by omega)
   rw [u8n hk, show ((8 : Nat) : Int) = (8 : Int) from rfl] at this
   rw [this]
   exact fin 8 _ hk (by omega) (by omega) (by omega) (by omega)
  ·have c3 : decide ((256 : Int) <= ((n : Nat) : Int)) = false := by simp; omega
   have hk : n < 256 := by omega
   simp only [c3, cond_false]
   rw [u8n hk, zX hk, cond_true]
   have := val 0 n hk (by omega) (by omega)
   rw [u8n hk, show ((0 : Nat) : Int) = (0 : Int) from rfl] at this
   rw [this]
   exact fin 0 _ hk (by omega) (by omega) (by omega) (by omega)
def zsP : List Int := [1, 10, 100, 1000, 10000, 100000, 1000000, 10000000, 100000000, 1000000000, 10000000000, 100000000000, 1000000000000, 10000000000000, 100000000000000, 1000000000000000, 10000000000000000, 100000000000000000, 1000000000000000000, 10000000000000000000]
def pw (k : Nat) : Int := nth (.int .u64) zsP k
theorem digits (N n : Nat) (h0 : 0 < n) (h : n < 4294967296) : ∃ L : Nat, 1 <= L /\ L <= 32 /\ 2 ^ (L - 1) <= n /\ n < 2 ^ L /\ zv N ((n : Nat) : Int) = some (((L * 78913 / 262144 + (if pw (L * 78913 / 262144) <= (n : Int) then 1 else 0) : Nat) : Int), ()) := by
 obtain ⟨L, h1, h2, h3, h4, h5⟩ := zsS N n h0 h
 refine ⟨L, h1, h2, h3, h4, ?_⟩
 unfold zv jV jY
 simp only [h5, Option.bind_some, p18]
 rw [wri (by omega) (by omega), show ((L : Nat) : Int) * 78913 = ((L * 78913 : Nat) : Int) from rfl, znf]
 have ht : L * 78913 / 262144 < 20 := by omega
 simp only [zX ht, Bool.and_self, cond_true, Int.toNat_natCast]
 show Option.bind (cond (decide (pw (L * 78913 / 262144) <= (n : Int))) (some ((1 : Int), ())) (some ((0 : Int), ()))) _ = _
 by_cases hc : pw (L * 78913 / 262144) <= (n : Int)
 ·rw [decide_eq_true hc, if_pos hc]
  simp only [cond_true, Option.bind_some]
  rw [wri (by omega) (by omega)]; rfl
 ·rw [decide_eq_false hc, if_neg hc]
  simp only [cond_false, Option.bind_some]
  rw [wri (by omega) (by omega)]; rfl
theorem zo1 (N n d : Nat) (h0 : 100 <= n) (h : n < 4294967296) (h1 : 3 <= d) (h2 : d <= 10) (h3 : 10 ^ (d - 1) <= n) (h4 : n < 10 ^ d) : zv N ((n : Nat) : Int) = some (((d : Nat) : Int), ()) := by
 obtain ⟨L, q1, q2, q3, q4, q5⟩ := digits N n (by omega) h
 rw [q5]
 clear q5
 have hL : L = 1 \/ L = 2 \/ L = 3 \/ L = 4 \/ L = 5 \/ L = 6 \/ L = 7 \/ L = 8 \/ L = 9 \/ L = 10 \/ L = 11 \/ L = 12 \/ L = 13 \/ L = 14 \/ L = 15 \/ L = 16 \/ L = 17 \/ L = 18 \/ L = 19 \/ L = 20 \/ L = 21 \/ L = 22 \/ L = 23 \/ L = 24 \/ L = 25 \/ L = 26 \/ L = 27 \/ L = 28 \/ L = 29 \/ L = 30 \/ L = 31 \/ L = 32 := by omega
 have hd : d = 3 \/ d = 4 \/ d = 5 \/ d = 6 \/ d = 7 \/ d = 8 \/ d = 9 \/ d = 10 := by omega
 have fin : L * 78913 / 262144 + (if pw (L * 78913 / 262144) <= (n : Int) then 1 else 0) = d := by
  rcases hd with rfl | rfl | rfl | rfl | rfl | rfl | rfl | rfl <;> simp only [Nat.reduceSub, Nat.reducePow] at h3 h4
  all_goals
   rcases hL with rfl | rfl | rfl | rfl | rfl | rfl | rfl | rfl | rfl | rfl | rfl | rfl | rfl | rfl | rfl | rfl | rfl | rfl | rfl | rfl | rfl | rfl | rfl | rfl | rfl | rfl | rfl | rfl | rfl | rfl | rfl | rfl <;> simp only [Nat.reduceSub, Nat.reducePow] at q3 q4 <;> first
    | (exfalso; omega; done)
    | (simp only [Nat.reduceMul, Nat.reduceDiv, show pw 2 = 100 from rfl, show pw 3 = 1000 from rfl, show pw 4 = 10000 from rfl, show pw 5 = 100000 from rfl, show pw 6 = 1000000 from rfl, show pw 7 = 10000000 from rfl, show pw 8 = 100000000 from rfl, show pw 9 = 1000000000 from rfl]; split <;> omega)
 rw [fin]
def z8 : Nat -> Nat -> List UInt8
 | 0, _ => []
 | f + 1, n => if n < 10 then [UInt8.ofNat (48 + n)] else z8 f (n / 10) ++ [UInt8.ofNat (48 + n % 10)]
def dec (n : Nat) : List UInt8 := z8 10 n
theorem zuk (n : Nat) (h1 : 100 <= n) (h2 : n < 1000) : dec n = [dgt n 100, dgt n 10, dgt n 1] := by
 unfold dec
 rw [show z8 10 (n) = z8 9 (n / 10) ++ [UInt8.ofNat (48 + n % 10)] from if_neg (by omega)]
 rw [show z8 9 (n / 10) = z8 8 (n / 10 / 10) ++ [UInt8.ofNat (48 + n / 10 % 10)] from if_neg (by omega)]
 rw [show z8 8 (n / 10 / 10) = [UInt8.ofNat (48 + n / 10 / 10)] from if_pos (by omega)]
 simp only [List.cons_append, List.nil_append, List.cons.injEq, and_true]
 refine ⟨?_, ?_, ?_⟩ <;> exact kN (by omega)
theorem zud (n : Nat) (h1 : 1000 <= n) (h2 : n < 10000) : dec n = [dgt n 1000, dgt n 100, dgt n 10, dgt n 1] := by
 unfold dec
 rw [show z8 10 (n) = z8 9 (n / 10) ++ [UInt8.ofNat (48 + n % 10)] from if_neg (by omega)]
 rw [show z8 9 (n / 10) = z8 8 (n / 10 / 10) ++ [UInt8.ofNat (48 + n / 10 % 10)] from if_neg (by omega)]
 rw [show z8 8 (n / 10 / 10) = z8 7 (n / 10 / 10 / 10) ++ [UInt8.ofNat (48 + n / 10 / 10 % 10)] from if_neg (by omega)]
 rw [show z8 7 (n / 10 / 10 / 10) = [UInt8.ofNat (48 + n / 10 / 10 / 10)] from if_pos (by omega)]
 simp only [List.cons_append, List.nil_append, List.cons.injEq, and_true]
 refine ⟨?_, ?_, ?_, ?_⟩ <;> exact kN (by omega)
theorem zuf (n : Nat) (h1 : 10000 <= n) (h2 : n < 100000) : dec n = [dgt n 10000, dgt n 1000, dgt n 100, dgt n 10, dgt n 1] := by
 unfold dec
 rw [show z8 10 (n) = z8 9 (n / 10) ++ [UInt8.ofNat (48 + n % 10)] from if_neg (by omega)]
 rw [show z8 9 (n / 10) = z8 8 (n / 10 / 10) ++ [UInt8.ofNat (48 + n / 10 % 10)] from if_neg (by omega)]
 rw [show z8 8 (n / 10 / 10) = z8 7 (n / 10 / 10 / 10) ++ [UInt8.ofNat (48 + n / 10 / 10 % 10)] from if_neg (by omega)]
 rw [show z8 7 (n / 10 / 10 / 10) = z8 6 (n / 10 / 10 / 10 / 10) ++ [UInt8.ofNat (48 + n / 10 / 10 / 10 % 10)] from if_neg (by omega)]
 rw [show z8 6 (n / 10 / 10 / 10 / 10) = [UInt8.ofNat (48 + n / 10 / 10 / 10 / 10)] from if_pos (by omega)]
 simp only [List.cons_append, List.nil_append, List.cons.injEq, and_true]
 refine ⟨?_, ?_, ?_, ?_, ?_⟩ <;> exact kN (by omega)
theorem zt3 (n : Nat) (h1 : 100000 <= n) (h2 : n < 1000000) : dec n = [dgt n 100000, dgt n 10000, dgt n 1000, dgt n 100, dgt n 10, dgt n 1] := by
 unfold dec
 rw [show z8 10 (n) = z8 9 (n / 10) ++ [UInt8.ofNat (48 + n % 10)] from if_neg (by omega)]
 rw [show z8 9 (n / 10) = z8 8 (n / 10 / 10) ++ [UInt8.ofNat (48 + n / 10 % 10)] from if_neg (by omega)]
 rw [show z8 8 (n / 10 / 10) = z8 7 (n / 10 / 10 / 10) ++ [UInt8.ofNat (48 + n / 10 / 10 % 10)] from if_neg (by omega)]
 rw [show z8 7 (n / 10 / 10 / 10) = z8 6 (n / 10 / 10 / 10 / 10) ++ [UInt8.ofNat (48 + n / 10 / 10 / 10 % 10)] from if_neg (by omega)]
 rw [show z8 6 (n / 10 / 10 / 10 / 10) = z8 5 (n / 10 / 10 / 10 / 10 / 10) ++ [UInt8.ofNat (48 + n / 10 / 10 / 10 / 10 % 10)] from if_neg (by omega)]
 rw [show z8 5 (n / 10 / 10 / 10 / 10 / 10) = [UInt8.ofNat (48 + n / 10 / 10 / 10 / 10 / 10)] from if_pos (by omega)]
 simp only [List.cons_append, List.nil_append, List.cons.injEq, and_true]
 refine ⟨?_, ?_, ?_, ?_, ?_, ?_⟩ <;> exact kN (by omega)
theorem zuG (n : Nat) (h1 : 1000000 <= n) (h2 : n < 10000000) : dec n = [dgt n 1000000, dgt n 100000, dgt n 10000, dgt n 1000, dgt n 100, dgt n 10, dgt n 1] := by
 unfold dec
 rw [show z8 10 (n) = z8 9 (n / 10) ++ [UInt8.ofNat (48 + n % 10)] from if_neg (by omega)]
 rw [show z8 9 (n / 10) = z8 8 (n / 10 / 10) ++ [UInt8.ofNat (48 + n / 10 % 10)] from if_neg (by omega)]
 rw [show z8 8 (n / 10 / 10) = z8 7 (n / 10 / 10 / 10) ++ [UInt8.ofNat (48 + n / 10 / 10 % 10)] from if_neg (by omega)]
 rw [show z8 7 (n / 10 / 10 / 10) = z8 6 (n / 10 / 10 / 10 / 10) ++ [UInt8.ofNat (48 + n / 10 / 10 / 10 % 10)] from if_neg (by omega)]
 rw [show z8 6 (n / 10 / 10 / 10 / 10) = z8 5 (n / 10 / 10 / 10 / 10 / 10) ++ [UInt8.ofNat (48 + n / 10 / 10 / 10 / 10 % 10)] from if_neg (by omega)]
 rw [show z8 5 (n / 10 / 10 / 10 / 10 / 10) = z8 4 (n / 10 / 10 / 10 / 10 / 10 / 10) ++ [UInt8.ofNat (48 + n / 10 / 10 / 10 / 10 / 10 % 10)] from if_neg (by omega)]
 rw [show z8 4 (n / 10 / 10 / 10 / 10 / 10 / 10) = [UInt8.ofNat (48 + n / 10 / 10 / 10 / 10 / 10 / 10)] from if_pos (by omega)]
 simp only [List.cons_append, List.nil_append, List.cons.injEq, and_true]
 refine ⟨?_, ?_, ?_, ?_, ?_, ?_, ?_⟩ <;> exact kN (by omega)
theorem zuW (n : Nat) (h1 : 10000000 <= n) (h2 : n < 100000000) : dec n = [dgt n 10000000, dgt n 1000000, dgt n 100000, dgt n 10000, dgt n 1000, dgt n 100, dgt n 10, dgt n 1] := by
 unfold dec
 rw [show z8 10 (n) = z8 9 (n / 10) ++ [UInt8.ofNat (48 + n % 10)] from if_neg (by omega)]
 rw [show z8 9 (n / 10) = z8 8 (n / 10 / 10) ++ [UInt8.ofNat (48 + n / 10 % 10)] from if_neg (by omega)]
 rw [show z8 8 (n / 10 / 10) = z8 7 (n / 10 / 10 / 10) ++ [UInt8.ofNat (48 + n / 10 / 10 % 10)] from if_neg (by omega)]
 rw [show z8 7 (n / 10 / 10 / 10) = z8 6 (n / 10 / 10 / 10 / 10) ++ [UInt8.ofNat (48 + n / 10 / 10 / 10 % 10)] from if_neg (by omega)]
 rw [show z8 6 (n / 10 / 10 / 10 / 10) = z8 5 (n / 10 / 10 / 10 / 10 / 10) ++ [UInt8.ofNat (48 + n / 10 / 10 / 10 / 10 % 10)] from if_neg (by omega)]
 rw [show z8 5 (n / 10 / 10 / 10 / 10 / 10) = z8 4 (n / 10 / 10 / 10 / 10 / 10 / 10) ++ [UInt8.ofNat (48 + n / 10 / 10 / 10 / 10 / 10 % 10)] from if_neg (by omega)]
 rw [show z8 4 (n / 10 / 10 / 10 / 10 / 10 / 10) = z8 3 (n / 10 / 10 / 10 / 10 / 10 / 10 / 10) ++ [UInt8.ofNat (48 + n / 10 / 10 / 10 / 10 / 10 / 10 % 10)] from if_neg (by omega)]
 rw [show z8 3 (n / 10 / 10 / 10 / 10 / 10 / 10 / 10) = [UInt8.ofNat (48 + n / 10 / 10 / 10 / 10 / 10 / 10 / 10)] from if_pos (by omega)]
 simp only [List.cons_append, List.nil_append, List.cons.injEq, and_true]
 refine ⟨?_, ?_, ?_, ?_, ?_, ?_, ?_, ?_⟩ <;> exact kN (by omega)
theorem zur (n : Nat) (h1 : 100000000 <= n) (h2 : n < 1000000000) : dec n = [dgt n 100000000, dgt n 10000000, dgt n 1000000, dgt n 100000, dgt n 10000, dgt n 1000, dgt n 100, dgt n 10, dgt n 1] := by
 unfold dec
 rw [show z8 10 (n) = z8 9 (n / 10) ++ [UInt8.ofNat (48 + n % 10)] from if_neg (by omega)]
 rw [show z8 9 (n / 10) = z8 8 (n / 10 / 10) ++ [UInt8.ofNat (48 + n / 10 % 10)] from if_neg (by omega)]
 rw [show z8 8 (n / 10 / 10) = z8 7 (n / 10 / 10 / 10) ++ [UInt8.ofNat (48 + n / 10 / 10 % 10)] from if_neg (by omega)]
 rw [show z8 7 (n / 10 / 10 / 10) = z8 6 (n / 10 / 10 / 10 / 10) ++ [UInt8.ofNat (48 + n / 10 / 10 / 10 % 10)] from if_neg (by omega)]
 rw [show z8 6 (n / 10 / 10 / 10 / 10) = z8 5 (n / 10 / 10 / 10 / 10 / 10) ++ [UInt8.ofNat (48 + n / 10 / 10 / 10 / 10 % 10)] from if_neg (by omega)]
 rw [show z8 5 (n / 10 / 10 / 10 / 10 / 10) = z8 4 (n / 10 / 10 / 10 / 10 / 10 / 10) ++ [UInt8.ofNat (48 + n / 10 / 10 / 10 / 10 / 10 % 10)] from if_neg (by omega)]
 rw [show z8 4 (n / 10 / 10 / 10 / 10 / 10 / 10) = z8 3 (n / 10 / 10 / 10 / 10 / 10 / 10 / 10) ++ [UInt8.ofNat (48 + n / 10 / 10 / 10 / 10 / 10 / 10 % 10)] from if_neg (by omega)]
 rw [show z8 3 (n / 10 / 10 / 10 / 10 / 10 / 10 / 10) = z8 2 (n / 10 / 10 / 10 / 10 / 10 / 10 / 10 / 10) ++ [UInt8.ofNat (48 + n / 10 / 10 / 10 / 10 / 10 / 10 / 10 % 10)] from if_neg (by omega)]
 rw [show z8 2 (n / 10 / 10 / 10 / 10 / 10 / 10 / 10 / 10) = [UInt8.ofNat (48 + n / 10 / 10 / 10 / 10 / 10 / 10 / 10 / 10)] from if_pos (by omega)]
 simp only [List.cons_append, List.nil_append, List.cons.injEq, and_true]
 refine ⟨?_, ?_, ?_, ?_, ?_, ?_, ?_, ?_, ?_⟩ <;> exact kN (by omega)
theorem zsN (n : Nat) (h1 : 1000000000 <= n) (h2 : n < 10000000000) : dec n = [dgt n 1000000000, dgt n 100000000, dgt n 10000000, dgt n 1000000, dgt n 100000, dgt n 10000, dgt n 1000, dgt n 100, dgt n 10, dgt n 1] := by
 unfold dec
 rw [show z8 10 (n) = z8 9 (n / 10) ++ [UInt8.ofNat (48 + n % 10)] from if_neg (by omega)]
 rw [show z8 9 (n / 10) = z8 8 (n / 10 / 10) ++ [UInt8.ofNat (48 + n / 10 % 10)] from if_neg (by omega)]
 rw [show z8 8 (n / 10 / 10) = z8 7 (n / 10 / 10 / 10) ++ [UInt8.ofNat (48 + n / 10 / 10 % 10)] from if_neg (by omega)]
 rw [show z8 7 (n / 10 / 10 / 10) = z8 6 (n / 10 / 10 / 10 / 10) ++ [UInt8.ofNat (48 + n / 10 / 10 / 10 % 10)] from if_neg (by omega)]
 rw [show z8 6 (n / 10 / 10 / 10 / 10) = z8 5 (n / 10 / 10 / 10 / 10 / 10) ++ [UInt8.ofNat (48 + n / 10 / 10 / 10 / 10 % 10)] from if_neg (by omega)]
 rw [show z8 5 (n / 10 / 10 / 10 / 10 / 10) = z8 4 (n / 10 / 10 / 10 / 10 / 10 / 10) ++ [UInt8.ofNat (48 + n / 10 / 10 / 10 / 10 / 10 % 10)] from if_neg (by omega)]
 rw [show z8 4 (n / 10 / 10 / 10 / 10 / 10 / 10) = z8 3 (n / 10 / 10 / 10 / 10 / 10 / 10 / 10) ++ [UInt8.ofNat (48 + n / 10 / 10 / 10 / 10 / 10 / 10 % 10)] from if_neg (by omega)]
 rw [show z8 3 (n / 10 / 10 / 10 / 10 / 10 / 10 / 10) = z8 2 (n / 10 / 10 / 10 / 10 / 10 / 10 / 10 / 10) ++ [UInt8.ofNat (48 + n / 10 / 10 / 10 / 10 / 10 / 10 / 10 % 10)] from if_neg (by omega)]
 rw [show z8 2 (n / 10 / 10 / 10 / 10 / 10 / 10 / 10 / 10) = z8 1 (n / 10 / 10 / 10 / 10 / 10 / 10 / 10 / 10 / 10) ++ [UInt8.ofNat (48 + n / 10 / 10 / 10 / 10 / 10 / 10 / 10 / 10 % 10)] from if_neg (by omega)]
 rw [show z8 1 (n / 10 / 10 / 10 / 10 / 10 / 10 / 10 / 10 / 10) = [UInt8.ofNat (48 + n / 10 / 10 / 10 / 10 / 10 / 10 / 10 / 10 / 10)] from if_pos (by omega)]
 simp only [List.cons_append, List.nil_append, List.cons.injEq, and_true]
 refine ⟨?_, ?_, ?_, ?_, ?_, ?_, ?_, ?_, ?_, ?_⟩ <;> exact kN (by omega)
theorem zmg (N : Nat) {n : Nat} (h : n < 100) : wu N ((n : Nat) : Int) = some (dec n, ()) := by
 have key : ((List.range 100).all fun n => decide (wu 0 ((n : Nat) : Int) = some (dec n, ()))) = true := by kernel_rfl
 rw [List.all_eq_true] at key
 exact of_decide_eq_true (key n (List.mem_range.2 h))
theorem zqd (N n : Nat) (hN : 10 <= N) (h : n < 4294967296) : zq N ((n : Nat) : Int) = some (dec n, ()) := by
 by_cases h0 : n < 100
 ·have c0 : decide (((n : Nat) : Int) < 100) = true := by simp; omega
  unfold zq
  simp only [zgI (show n < 18446744073709551616 by omega), c0, cond_true]
  rw [wri (by omega) (by omega), zmg N h0]; rfl
 ·rcases (show (100 <= n /\ n < 1000) \/ (1000 <= n /\ n < 10000) \/ (10000 <= n /\ n < 100000) \/ (100000 <= n /\ n < 1000000) \/ (1000000 <= n /\ n < 10000000) \/ (10000000 <= n /\ n < 100000000) \/ (100000000 <= n /\ n < 1000000000) \/ (1000000000 <= n /\ n < 10000000000) by omega) with ⟨h1, h2⟩ | ⟨h1, h2⟩ | ⟨h1, h2⟩ | ⟨h1, h2⟩ | ⟨h1, h2⟩ | ⟨h1, h2⟩ | ⟨h1, h2⟩ | ⟨h1, h2⟩
  ·rw [zuk n h1 h2]; exact zt0 N n hN h1 h2 h (zo1 N n 3 (by omega) h (by omega) (by omega) h1 h2)
  ·rw [zud n h1 h2]; exact zt5 N n hN h1 h2 h (zo1 N n 4 (by omega) h (by omega) (by omega) h1 h2)
  ·rw [zuf n h1 h2]; exact zuT N n hN h1 h2 h (zo1 N n 5 (by omega) h (by omega) (by omega) h1 h2)
  ·rw [zt3 n h1 h2]; exact zuK N n hN h1 h2 h (zo1 N n 6 (by omega) h (by omega) (by omega) h1 h2)
  ·rw [zuG n h1 h2]; exact zt7 N n hN h1 h2 h (zo1 N n 7 (by omega) h (by omega) (by omega) h1 h2)
  ·rw [zuW n h1 h2]; exact zt1 N n hN h1 h2 h (zo1 N n 8 (by omega) h (by omega) (by omega) h1 h2)
  ·rw [zur n h1 h2]; exact zuF N n hN h1 h2 h (zo1 N n 9 (by omega) h (by omega) (by omega) h1 h2)
  ·rw [zsN n h1 h2]; exact zsw N n hN h1 h2 h (zo1 N n 10 (by omega) h (by omega) (by omega) h1 h2)
theorem zoo (N n : Nat) (hN : 10 <= N) (h : n < 4294967296) : zq N ((n : Nat) : Int) = some (dec n, ()) := by
 exact zqd N n hN h
theorem zkE : ∀ f n, (z8 f n).length <= f
 | 0, n => by simp [z8]
 | f + 1, n => by
  unfold z8
  split
  ·simp
  ·have := zkE f (n / 10); simp; omega
theorem zix {k : Nat} (h : k < 10) : slice ([48, 49, 50, 51, 52, 53, 54, 55, 56, 57] : List UInt8) k (k + 1) = [UInt8.ofNat (48 + k)] := by
 have key : ((List.range 10).all fun k => slice ([48, 49, 50, 51, 52, 53, 54, 55, 56, 57] : List UInt8) k (k + 1) == [UInt8.ofNat (48 + k)]) = true := by kernel_rfl
 rw [List.all_eq_true] at key
 exact beq_iff_eq.1 (key k (List.mem_range.2 h))
theorem zrf (n : Nat) : Int.tmod ((n : Nat) : Int) 10 = ((n % 10 : Nat) : Int) := rfl
theorem zq2 (n : Nat) : Int.tdiv ((n : Nat) : Int) 10 = ((n / 10 : Nat) : Int) := rfl
theorem zro (N : Nat) : ∀ (f m n : Nat) (acc : List UInt8), n < 10 ^ f -> n < 4294967296 -> 0 < f -> f <= m -> acc.length + f <= 1000 -> ∃ (x : Nat) (ys : List UInt8), qb N m ((n : Nat) : Int) acc = some (((x : Nat) : Int), ys) /\ x < 10 /\ UInt8.ofNat (48 + x) :: ys = z8 f n ++ acc /\ ys.length <= 1000
 | 0, m, n, acc, h, h', h0, hm, hl => by omega
 | f + 1, 0, n, acc, h, h', h0, hm, hl => by omega
 | f + 1, m + 1, n, acc, h, h', h0, hm, hl => by
  unfold qb kQ
  by_cases hn : n < 10
  ·have c : decide ((10 : Int) <= ((n : Nat) : Int)) = false := by simp; omega
   simp only [c, cond_false]
   exact ⟨n, acc, rfl, hn, by unfold z8; rw [if_pos hn]; rfl, by omega⟩
  ·have c : decide ((10 : Int) <= ((n : Nat) : Int)) = true := by simp; omega
   have hk : n % 10 < 10 := by omega
   have hb := qY (a := n % 10) (b := n % 10 + 1) (n := 10) (by omega) (by omega)
   simp (disch := omega) only [c, cond_true, zrf, zq2, zfm, zlG, hb, Int.toNat_natCast, zix]
   have c2 : decide (List.length [UInt8.ofNat (48 + n % 10)] + List.length acc < 4611686018427387904) = true := by simp; omega
   simp only [c2, cond_true]
   have hpos : 0 < f := by
    cases f with
    | zero => simp at h; omega
    | succ f => omega
   have hlt : n / 10 < 10 ^ f := by rw [Nat.pow_succ] at h; omega
   obtain ⟨x, ys, q1, q2, q3, q4⟩ := zro N f m (n / 10) ([UInt8.ofNat (48 + n % 10)] ++ acc) hlt (by omega) hpos (by omega) (by simp; omega)
   exact ⟨x, ys, q1, q2, by
                rw [q3]; conv => rhs; unfold z8; rw [if_neg hn]
                simp, q4⟩
theorem zql (N n : Nat) (hN : 10 <= N) (h : n < 4294967296) : wv N ((n : Nat) : Int) = some (dec n, ()) := by
 obtain ⟨x, ys, q1, q2, q3, q4⟩ := zro N 10 N n [] (by omega) h (by omega) (by omega) (by simp)
 unfold wv
 have hb := qY (a := x) (b := x + 1) (n := 10) (by omega) (by omega)
 simp (disch := omega) only [q1, Option.bind_some, zfm, zlG, hb, cond_true, Int.toNat_natCast, zix]
 have c2 : decide (List.length [UInt8.ofNat (48 + x)] + List.length ys < 4611686018427387904) = true := by simp; omega
 rw [List.append_nil] at q3
 simp only [c2, cond_true, List.cons_append, List.nil_append, q3]; rfl
def zi2 : Nat -> List UInt8 -> Option Nat
 | acc, [] => some acc
 | acc, c :: r => if 48 <= c.toNat /\ c.toNat <= 57 then zi2 (acc * 10 + (c.toNat - 48)) r else none
theorem zmp : ∀ (l : List UInt8) (acc v : Nat), zi2 acc l = some v -> acc <= v
 | [], acc, v, h => by cases h; omega
 | c :: r, acc, v, h => by
  unfold zi2 at h
  split at h
  ·have := zmp r _ v h; omega
  ·cases h
theorem znm : ∀ (l : List UInt8) (acc v k : Nat), zi2 acc l = some v -> acc < 10 ^ k -> v < 10 ^ (k + l.length)
 | [], acc, v, k, h, hk => by cases h; simpa using hk
 | c :: r, acc, v, k, h, hk => by
  unfold zi2 at h
  split at h
  ·have := znm r _ v (k + 1) h (by rw [Nat.pow_succ]; omega)
   rwa [List.length_cons, show k + (r.length + 1) = k + 1 + r.length by omega]
  ·cases h
theorem zp8 (M : Nat) (hM : M < 1844674407370955162) : ∀ (l : List UInt8) (acc v : Nat), acc <= M -> zi2 acc l = some v -> v <= M -> Go.Lib.parseUintM M acc l = .ok v
 | [], acc, v, ha, h, hv => by cases h; rfl
 | c :: r, acc, v, ha, h, hv => by
  unfold zi2 at h
  split at h
  ·rename_i hc
   have := zmp r _ v h
   unfold Go.Lib.parseUintM
   rw [if_pos hc, if_neg (by omega), if_neg (by omega)]
   exact zp8 M hM r _ v (by omega) h hv
  ·cases h
theorem zpu (M : Nat) : ∀ (l : List UInt8) (acc v : Nat), acc <= M -> Go.Lib.parseUintM M acc l = .ok v -> zi2 acc l = some v /\ v <= M
 | [], acc, v, ha, h => by cases h; exact ⟨rfl, ha⟩
 | c :: r, acc, v, ha, h => by
  unfold Go.Lib.parseUintM at h
  split at h
  ·rename_i hc
   split at h
   ·cases h
   ·split at h
    ·cases h
    ·unfold zi2
     rw [if_pos hc]
     exact zpu M r _ v (by omega) h
  ·cases h
def zep (s : List UInt8) : Option Nat := match zi2 0 s with
 | some v => if v <= 4294967295 /\ dec v = s then some v else none
 | none => none
def zoZ (s : List UInt8) : Option (Int × Bool × Unit) := some (match zep s with
 | some v => (((v : Nat) : Int), true, ())
 | none => (0, false, ()))
theorem zl0 {s : List UInt8} {v : Nat} (h : zep s = some v) : v <= 4294967295 := by
 unfold zep at h
 split at h
 ·split at h
  ·rename_i hc; cases h; exact hc.1
  ·cases h
 ·cases h
theorem zqa (n : Nat) : (dec n).length <= 10 := zkE 10 n
theorem zj2 {s : List UInt8} {v : Nat} (h : zep s = some v) : s.length <= 10 := by
 unfold zep at h
 split at h
 ·split at h
  ·rename_i hc; rw [<- hc.2]; exact zqa _
  ·cases h
 ·cases h
theorem zks (N : Nat) (hN : 10 <= N) (s : List UInt8) (hs : s.length <= 100000) : wD N s = zoZ s := by
 unfold wD zoZ
 have hb : Nat.ble (List.length s) zkY = true := by rw [Nat.ble_eq]; unfold zkY; omega
 simp only [hb, cond_true]
 have bad : zep s = none -> some ((0 : Int), false, ()) = some (match zep s with
  | some v => (((v : Nat) : Int), true, ())
  | none => (0, false, ())) := fun h => by rw [h]
 rcases hp : Go.Lib.parseUintB 32 s with u | _ | _
 ·unfold Go.Lib.parseUintB at hp
  split at hp
  ·cases hp
  ·obtain ⟨h1, h2⟩ := zpu _ s 0 u (by omega) hp
   have h2 : u <= 4294967295 := h2
   simp only [zlL]
   rw [zlG (by omega), zoo N u hN (by omega)]
   simp only [Option.bind_some]
   unfold zep
   simp only [h1]
   cases hd : dec u != s with
   | true =>
    have hd' : ¬ dec u = s := by simpa using hd
    rw [if_neg (fun h => hd' h.2)]; rfl
   | false =>
    have hd' : dec u = s := by simpa using hd
    rw [if_pos ⟨h2, hd'⟩]; rfl
 ·refine bad ?_
  unfold zep
  split
  ·rename_i v hv
   rw [if_neg]
   intro ⟨h1, h2⟩
   unfold Go.Lib.parseUintB at hp
   split at hp
   ·rename_i he
    subst he
    have : (dec v).length = 0 := by rw [h2]; rfl
    unfold dec z8 at this
    split at this <;> simp at this
   ·rw [zp8 _ (by decide) s 0 v (by omega) hv h1] at hp; cases hp
  ·rfl
 ·refine bad ?_
  unfold zep
  split
  ·rename_i v hv
   rw [if_neg]
   intro ⟨h1, h2⟩
   unfold Go.Lib.parseUintB at hp
   split at hp
   ·cases hp
   ·rw [zp8 _ (by decide) s 0 v (by omega) hv h1] at hp; cases hp
  ·rfl
theorem zui (c : UInt8) : decide (c < (48 : UInt8)) = decide (c.toNat < 48) := by
 rw [decide_eq_decide]; exact UInt8.lt_iff_toNat_lt
theorem zuc (c : UInt8) : decide ((57 : UInt8) < c) = decide (57 < c.toNat) := by
 rw [decide_eq_decide]; exact UInt8.lt_iff_toNat_lt
theorem zsI {c : UInt8} (h : 48 <= c.toNat) : (c - 48).toNat = c.toNat - 48 := by
 have := c.toNat_lt
 rw [UInt8.toNat_sub]
 show (256 - 48 + c.toNat) % 256 = _
 omega
theorem zr3 (N : Nat) (s : List UInt8) (hs : s.length <= 10) : ∀ (m i v : Nat), i <= s.length -> v < 10 ^ i -> s.length < m + i ->
  ql N m s ((v : Nat) : Int) ((i : Nat) : Int) = match zi2 v (s.drop i) with
   | some w => some (Sum.inr (s, ((w : Nat) : Int)))
   | none => some (Sum.inl ())
 | 0, i, v, h, hv, h' => by omega
 | m + 1, i, v, h, hv, h' => by
  unfold ql xi
  by_cases hi : i < s.length
  ·simp only [zhN hi, cond_true, zX hi, Int.toNat_natCast, jH (u := .u8) hi, zui, zuc, drop_one hi, zi2]
   have hlt := s[i].toNat_lt
   by_cases h1 : s[i].toNat < 48
   ·simp only [decide_eq_true h1, cond_true]
    rw [if_neg (by omega)]
   ·simp only [decide_eq_false h1, cond_false]
    by_cases h2 : 57 < s[i].toNat
    ·simp only [decide_eq_true h2, cond_true]
     rw [if_neg (by omega)]
    ·simp only [decide_eq_false h2, cond_false]
     rw [if_pos ⟨by omega, by omega⟩, zsI (by omega)]
     have hp : 10 ^ i <= 10 ^ 9 := Nat.pow_le_pow_right (by omega) (by omega)
     have hp2 : (10 : Nat) ^ (i + 1) = 10 ^ i * 10 := Nat.pow_succ ..
     have e1 : IntKind.wrap .u64 ((IntKind.wrap .u64 ((10 : Int) * ((v : Nat) : Int))) + (IntKind.wrap .u64 (((s[i].toNat - 48 : Nat)) : Int))) = ((v * 10 + (s[i].toNat - 48) : Nat) : Int) := by
      rw [show (10 : Int) * ((v : Nat) : Int) = ((10 * v : Nat) : Int) from rfl, zgI (by omega), zgI (n := s[i].toNat - 48) (by omega), show ((10 * v : Nat) : Int) + ((s[i].toNat - 48 : Nat) : Int) = ((10 * v + (s[i].toNat - 48) : Nat) : Int) from rfl, zgI (by omega)]
      omega
     rw [e1, wri (by omega) (by omega), zfm]
     exact zr3 N s hs m (i + 1) _ (by omega) (by omega) (by omega)
  ·simp only [zhM hi, cond_false]
   rw [List.drop_eq_nil_of_le (by omega)]
   rfl
theorem zmE (N : Nat) (hN : 20 <= N) (s : List UInt8) : jQ N s = zoZ s := by
 unfold jQ zoZ
 by_cases hl : s.length <= 10
 ·have c : decide ((10 : Int) < ((s.length : Nat) : Int)) = false := by simp; omega
  have h := zr3 N s hl N 0 0 (by omega) (by simp) (by omega)
  rw [show ((0 : Nat) : Int) = (0 : Int) from rfl, List.drop_zero] at h
  simp only [c, cond_false, h]
  unfold zep
  cases hv : zi2 0 s with
  | none => rfl
  | some v =>
   simp only [Option.bind_some, zl]
   have hlt := znm s 0 v 0 hv (by simp)
   have hp : 10 ^ (0 + s.length) <= 10 ^ 10 := Nat.pow_le_pow_right (by omega) (by omega)
   by_cases h1 : v <= 4294967295
   ·have c1 : decide ((4294967295 : Int) < ((v : Nat) : Int)) = false := by simp; omega
    simp only [c1, cond_false]
    rw [zlG (by omega), zql N v (by omega) (by omega)]
    simp only [Option.bind_some]
    cases hd : dec v != s with
    | true =>
     have hd' : ¬ dec v = s := by simpa using hd
     rw [if_neg (fun h => hd' h.2)]; rfl
    | false =>
     have hd' : dec v = s := by simpa using hd
     rw [if_pos ⟨h1, hd'⟩]; rfl
   ·have c1 : decide ((4294967295 : Int) < ((v : Nat) : Int)) = true := by simp; omega
    simp only [c1, cond_true]
    rw [if_neg (fun h => h1 h.1)]
 ·have c : decide ((10 : Int) < ((s.length : Nat) : Int)) = true := by simp; omega
  simp only [c, cond_true]
  cases hv : zep s with
  | none => rfl
  | some v => exact absurd (zj2 hv) hl
def posOf (c : UInt8) : List UInt8 -> Option Nat
 | [] => none
 | x :: l => if x == c then some 0 else match posOf c l with
  | some i => some (i + 1)
  | none => none
theorem zfI (c : UInt8) : ∀ (l : List UInt8) (k : Nat), jh c l k = match posOf c l with
  | some i => ((k + i : Nat) : Int)
  | none => -1
 | [], k => rfl
 | x :: l, k => by
  unfold posOf
  simp only [jh]
  cases x == c with
  | true => simp
  | false =>
   simp only [Bool.false_eq_true, if_false]
   rw [zfI c l (k + 1)]
   cases posOf c l with
   | none => rfl
   | some i => simp only; congr 1; omega
theorem qT {c : UInt8} : ∀ {l : List UInt8} {i : Nat}, posOf c l = some i -> i < l.length /\ l[i]? = some c /\ ∀ j : Nat, j < i -> l[j]? ≠ some c
 | [], i, h => by cases h
 | x :: l, i, h => by
  unfold posOf at h
  cases hx : x == c with
  | true =>
   simp only [hx, if_true] at h
   cases h
   rw [beq_iff_eq] at hx
   subst hx
   exact ⟨by simp, rfl, fun j hj => by omega⟩
  | false =>
   have hx' : ¬ x = c := by simpa using hx
   simp only [hx, Bool.false_eq_true, if_false] at h
   split at h
   ·rename_i i' hi
    cases h
    obtain ⟨h1, h2, h3⟩ := qT hi
    refine ⟨by simpa using h1, by simpa using h2, fun j hj => ?_⟩
    cases j with
    | zero => simpa using hx'
    | succ j => simpa using h3 j (by omega)
   ·cases h
theorem zgg {c : UInt8} : ∀ {l : List UInt8}, posOf c l = none -> ∀ j : Nat, l[j]? ≠ some c
 | [], h, j => by simp
 | x :: l, h, j => by
  unfold posOf at h
  cases hx : x == c with
  | true => simp only [hx, if_true] at h; cases h
  | false =>
   have hx' : ¬ x = c := by simpa using hx
   simp only [hx, Bool.false_eq_true, if_false] at h
   split at h
   ·cases h
   ·rename_i hn
    cases j with
    | zero => simpa using hx'
    | succ j => simpa using zgg hn j
theorem zb2 {α : Type} (l : List α) (a : Nat) : ze l a = l.drop a := by
 unfold ze; rw [Int.toNat_natCast]; exact xg
theorem zcD {α : Type} {a : Nat} {l : List α} (h : a <= l.length) : zW ((a : Nat) : Int) l = true := qY h (Nat.le_refl _)
theorem zoQ (N : Nat) (l : List UInt8) (h : l.length <= 100000) : qc N l = some (l, ()) := by
 unfold qc
 rw [zbR (by omega)]; rfl
def zqU (b : List UInt8) (i : Nat) : Option ((List UInt8) × Int × Bool × Unit) := match posOf 125 (b.drop (i + 1)) with
 | none => some ([], 0, false, ())
 | some k => match zep (slice b (i + 1) (i + 1 + k)) with
  | none => some ([], 0, false, ())
  | some n => if n <= 65536 /\ b[i + 1 + k + 1]? = some 13 /\ b[i + 1 + k + 2]? = some 10 /\ i + 1 + k + 3 + n <= b.length then some (slice b (i + 1 + k + 3) (i + 1 + k + 3 + n), ((i + 1 + k + 3 + n : Nat) : Int), true, ()) else some ([], 0, false, ())
theorem zbU {α : Type} {l : List α} {a b : Nat} : (slice l a b).length <= l.length := by
 unfold slice; rw [List.length_take, List.length_drop]; omega
theorem zoa (N : Nat) (b : List UInt8) (hb : b.length <= 20000) (hN : 10 <= N) (i : Nat) (hi : i < b.length) (hc : b[i] = 123) : ja N b (i : Int) = zqU b i := by
 unfold ja zqU qQ
 have d0 : decide ((i : Int) < 0) = false := by simp
 have d1 : decide (((b.length : Nat) : Int) <= (i : Int)) = false := by simp; omega
 have w1 : IntKind.wrap .i64 ((i : Int) + 1) = ((i + 1 : Nat) : Int) := by rw [wri (by omega) (by omega)]; omega
 have w2 : IntKind.wrap .i64 (((i + 1 : Nat) : Int) - 1) = (i : Int) := by rw [wri (by omega) (by omega)]; omega
 have hbe : zW ((i + 1 : Nat) : Int) b = true := zcD (by omega)
 simp only [d0, d1, cond_false, w1, w2, zX hi, cond_true, Int.toNat_natCast, jH (u := .u8) hi, hc, show ((123 : UInt8) == 123) = true from rfl, Bool.not_true, hbe, Bool.and_true, zb2, zfI, Option.bind_some]
 cases hp : posOf 125 (b.drop (i + 1)) with
 | none => simp only [show decide ((-1 : Int) < 0) = true from rfl, cond_true]
 | some k =>
  obtain ⟨q1, q2, q3⟩ := qT hp
  rw [List.length_drop] at q1
  have w3 : IntKind.wrap .i64 (((k : Nat) : Int) + 1) = ((k + 1 : Nat) : Int) := by rw [wri (by omega) (by omega)]; omega
  have w4 : IntKind.wrap .i64 (((i + 1 : Nat) : Int) + ((k : Nat) : Int)) = ((i + 1 + k : Nat) : Int) := by rw [wri (by omega) (by omega)]; omega
  have w5 : IntKind.wrap .i64 (((i + 1 : Nat) : Int) + ((k + 1 : Nat) : Int)) = ((i + 1 + k + 1 : Nat) : Int) := by rw [wri (by omega) (by omega)]; omega
  have d2 : decide (((k : Nat) : Int) < 0) = false := by simp
  have hb2 : js ((i + 1 : Nat) : Int) ((i + 1 + k : Nat) : Int) b.length = true := qY (by omega) (by omega)
  simp only [Nat.zero_add, d2, cond_false, w3, w4, w5, hb2, cond_true, Int.toNat_natCast]
  rw [zks N hN _ (Nat.le_trans zbU (by omega))]
  unfold zoZ
  have hj : i + 1 + k < b.length := by omega
  generalize i + 1 + k = j at hj |-
  simp only [Option.bind_some]
  cases hn : zep (slice b (i + 1) j) with
  | none => rfl
  | some n =>
   have hn2 := zl0 hn
   simp only [Bool.not_true, cond_false]
   by_cases c1 : n <= 65536
   ·have e1 : decide ((65536 : Int) < ((n : Nat) : Int)) = false := by simp; omega
    have d3 : decide (((j + 1 : Nat) : Int) < 0) = false := by simp; omega
    simp only [e1, cond_false, d3]
    by_cases c2 : j + 1 < b.length
    ·have e2 : decide (((b.length : Nat) : Int) <= ((j + 1 : Nat) : Int)) = false := by simp; omega
     have w6 : IntKind.wrap .i64 (((j + 1 : Nat) : Int) + 1) = ((j + 2 : Nat) : Int) := by rw [wri (by omega) (by omega)]; omega
     have w7 : IntKind.wrap .i64 (((j + 2 : Nat) : Int) - 1) = ((j + 1 : Nat) : Int) := by rw [wri (by omega) (by omega)]; omega
     have d4 : decide (((j + 2 : Nat) : Int) < 0) = false := by simp; omega
     simp only [e2, cond_false, w6, w7, zX c2, cond_true, Int.toNat_natCast, jH (u := .u8) c2, List.getElem?_eq_getElem c2, Option.some.injEq, d4]
     cases h13 : b[j + 1] == (13 : UInt8) with
     | false =>
      have h13' : ¬ b[j + 1] = 13 := by simpa using h13
      simp only [Bool.not_false, cond_true]
      rw [if_neg (fun h => h13' h.2.1)]
     | true =>
      have h13' : b[j + 1] = 13 := by simpa using h13
      simp only [Bool.not_true, cond_false, h13', true_and]
      by_cases c3 : j + 2 < b.length
      ·have e3 : decide (((b.length : Nat) : Int) <= ((j + 2 : Nat) : Int)) = false := by simp; omega
       have w8 : IntKind.wrap .i64 (((j + 2 : Nat) : Int) + 1) = ((j + 3 : Nat) : Int) := by rw [wri (by omega) (by omega)]; omega
       have w9 : IntKind.wrap .i64 (((j + 3 : Nat) : Int) - 1) = ((j + 2 : Nat) : Int) := by rw [wri (by omega) (by omega)]; omega
       have w10 : IntKind.wrap .i64 ((n : Nat) : Int) = ((n : Nat) : Int) := wri (by omega) (by omega)
       have w11 : IntKind.wrap .i64 (((j + 3 : Nat) : Int) + ((n : Nat) : Int)) = ((j + 3 + n : Nat) : Int) := by rw [wri (by omega) (by omega)]; omega
       have w12 : IntKind.wrap .i64 (((b.length : Nat) : Int) - ((j + 3 : Nat) : Int)) = ((b.length : Nat) : Int) - ((j + 3 : Nat) : Int) := wri (by omega) (by omega)
       simp only [e3, cond_false, w8, w9, zX c3, cond_true, Int.toNat_natCast, jH (u := .u8) c3, List.getElem?_eq_getElem c3, Option.some.injEq, w10, w11, w12]
       cases h10 : b[j + 2] == (10 : UInt8) with
       | false =>
        have h10' : ¬ b[j + 2] = 10 := by simpa using h10
        simp only [Bool.not_false, cond_true]
        rw [if_neg (fun h => h10' h.2.1)]
       | true =>
        have h10' : b[j + 2] = 10 := by simpa using h10
        simp only [Bool.not_true, cond_false, h10', true_and]
        by_cases c4 : j + 3 + n <= b.length
        ·have e4 : decide (((b.length : Nat) : Int) - ((j + 3 : Nat) : Int) < ((n : Nat) : Int)) = false := by simp only [decide_eq_false_iff_not]; omega
         have hb3 : js ((j + 3 : Nat) : Int) ((j + 3 + n : Nat) : Int) b.length = true := qY (by omega) (by omega)
         simp only [e4, cond_false, hb3, cond_true]
         rw [zoQ N _ (Nat.le_trans zbU (by omega)), if_pos ⟨c1, c4⟩]; rfl
        ·have e4 : decide (((b.length : Nat) : Int) - ((j + 3 : Nat) : Int) < ((n : Nat) : Int)) = true := by simp only [decide_eq_true_eq]; omega
         simp only [e4, cond_true]
         rw [if_neg (fun h => c4 h.2)]
      ·have e3 : decide (((b.length : Nat) : Int) <= ((j + 2 : Nat) : Int)) = true := by simp; omega
       have n3 : b[j + 2]? = none := List.getElem?_eq_none (by omega)
       simp only [e3, cond_true, n3]
       rw [if_neg (fun h => by cases h.2.1)]
    ·have e2 : decide (((b.length : Nat) : Int) <= ((j + 1 : Nat) : Int)) = true := by simp; omega
     have n2 : b[j + 1]? = none := List.getElem?_eq_none (by omega)
     simp only [e2, cond_true, n2]
     rw [if_neg (fun h => by cases h.2.1)]
   ·have e1 : decide ((65536 : Int) < ((n : Nat) : Int)) = true := by simp; omega
    simp only [e1, cond_true]
    rw [if_neg (fun h => c1 h.1)]
theorem zrL (N : Nat) (b : List UInt8) (hb : b.length <= 20000) (i : Nat) : ∀ (m p : Nat), i < p -> p <= i + 13 -> p <= b.length -> b.length < m + p ->
  ∃ r : Nat, p <= r /\ r <= b.length /\ zN N m b ((i : Nat) : Int) ((p : Nat) : Int) = some (b, ((i : Nat) : Int), ((r : Nat) : Int)) /\ (∀ q, p <= q -> q < r -> b[q]? ≠ some 125) /\ (r = b.length \/ b[r]? = some 125 \/ r = i + 13)
 | 0, p, h1, h2, h3, h4 => by omega
 | m + 1, p, h1, h2, h3, h4 => by
  unfold zN wg
  by_cases hi : p < b.length
  ·simp only [zhN hi, cond_true, zX hi, Int.toNat_natCast, jH (u := .u8) hi]
   cases hc : b[p] != (125 : UInt8) with
   | false =>
    have hc' : b[p] = 125 := by simpa using hc
    simp only [cond_false]
    exact ⟨p, Nat.le_refl _, by omega, rfl, fun q h5 h6 => by omega, .inr (.inl (by rw [List.getElem?_eq_getElem hi, hc']))⟩
   | true =>
    have hc' : ¬ b[p] = 125 := by simpa using hc
    have w : IntKind.wrap .i64 (((p : Nat) : Int) - ((i : Nat) : Int)) = ((p : Nat) : Int) - ((i : Nat) : Int) := wri (by omega) (by omega)
    simp only [cond_true, w]
    by_cases hp : p <= i + 12
    ·have e : decide (((p : Nat) : Int) - ((i : Nat) : Int) <= 12) = true := by simp only [decide_eq_true_eq]; omega
     have w1 : IntKind.wrap .i64 (((p : Nat) : Int) + 1) = ((p + 1 : Nat) : Int) := by rw [wri (by omega) (by omega)]; omega
     simp only [e, cond_true, w1]
     obtain ⟨r, q1, q2, q3, q4, q5⟩ := zrL N b hb i m (p + 1) (by omega) (by omega) (by omega) (by omega)
     refine ⟨r, by omega, q2, q3, fun q h5 h6 => ?_, q5⟩
     by_cases hq : q = p
     ·subst hq; rw [List.getElem?_eq_getElem hi]; simpa using hc'
     ·exact q4 q (by omega) h6
    ·have e : decide (((p : Nat) : Int) - ((i : Nat) : Int) <= 12) = false := by simp only [decide_eq_false_iff_not]; omega
     simp only [e, cond_false]
     exact ⟨p, Nat.le_refl _, by omega, rfl, fun q h5 h6 => by omega, .inr (.inr (by omega))⟩
  ·simp only [zhM hi, cond_false]
   exact ⟨p, Nat.le_refl _, by omega, rfl, fun q h5 h6 => by omega, .inl (by omega)⟩
theorem zpw (N : Nat) (b : List UInt8) (hb : b.length <= 20000) (hN : 20 <= N) (hN2 : b.length < N) (i : Nat) (hi : i < b.length) (hc : b[i] = 123) : jb N b (i : Int) = zqU b i := by
 unfold jb zqU
 have d0 : decide ((i : Int) < 0) = false := by simp
 have d1 : decide (((b.length : Nat) : Int) <= (i : Int)) = false := by simp; omega
 have w1 : IntKind.wrap .i64 ((i : Int) + 1) = ((i + 1 : Nat) : Int) := by rw [wri (by omega) (by omega)]; omega
 obtain ⟨r, q1, q2, q3, q4, q5⟩ := zrL N b hb i N (i + 1) (by omega) (by omega) (by omega) (by omega)
 simp only [d0, d1, cond_false, w1, zX hi, cond_true, Int.toNat_natCast, jH (u := .u8) hi, hc, show ((123 : UInt8) != 123) = false from rfl, q3, Option.bind_some]
 have bad : (∀ k, posOf 125 (b.drop (i + 1)) = some k -> 12 < k) -> (match posOf 125 (b.drop (i + 1)) with
   | none => some (([] : List UInt8), (0 : Int), false, ())
   | some k => match zep (slice b (i + 1) (i + 1 + k)) with
    | none => some ([], 0, false, ())
    | some n => if n <= 65536 /\ b[i + 1 + k + 1]? = some 13 /\ b[i + 1 + k + 2]? = some 10 /\ i + 1 + k + 3 + n <= b.length then some (slice b (i + 1 + k + 3) (i + 1 + k + 3 + n), ((i + 1 + k + 3 + n : Nat) : Int), true, ()) else some ([], 0, false, ())) = some ([], 0, false, ()) := by
  intro h
  split
  ·rfl
  ·rename_i k hk
   have h12 := h k hk
   obtain ⟨s1, s2, s3⟩ := qT hk
   rw [List.length_drop] at s1
   split
   ·rfl
   ·rename_i n hn
    have := zj2 hn
    unfold slice at this
    rw [List.length_take, List.length_drop] at this
    omega
 by_cases hr : r = b.length
 ·have e : decide (((b.length : Nat) : Int) <= ((r : Nat) : Int)) = true := by simp; omega
  simp only [e, cond_true]
  refine (bad fun k hk => ?_).symm
  obtain ⟨s1, s2, s3⟩ := qT hk
  rw [List.length_drop] at s1
  rw [List.getElem?_drop] at s2
  exact absurd s2 (q4 (i + 1 + k) (by omega) (by omega))
 ·have e : decide (((b.length : Nat) : Int) <= ((r : Nat) : Int)) = false := by simp; omega
  have hlt : r < b.length := by omega
  simp only [e, cond_false, zX hlt, cond_true, jH (u := .u8) hlt]
  cases h125 : b[r] != (125 : UInt8) with
  | true =>
   have h125' : ¬ b[r] = 125 := by simpa using h125
   simp only [cond_true]
   have hr13 : r = i + 13 := by
    rcases q5 with h | h | h
    ·omega
    ·rw [List.getElem?_eq_getElem hlt] at h; exact absurd (Option.some.inj h) h125'
    ·exact h
   refine (bad fun k hk => ?_).symm
   obtain ⟨s1, s2, s3⟩ := qT hk
   rw [List.length_drop] at s1
   rw [List.getElem?_drop] at s2
   by_cases hk2 : 12 < k
   ·exact hk2
   ·by_cases hk3 : i + 1 + k = r
    ·rw [hk3, List.getElem?_eq_getElem hlt] at s2
     exact absurd (Option.some.inj s2) h125'
    ·exact absurd s2 (q4 (i + 1 + k) (by omega) (by omega))
  | false =>
   have h125' : b[r] = 125 := by simpa using h125
   obtain ⟨k, hk⟩ : ∃ k, r = i + 1 + k := ⟨r - (i + 1), by omega⟩
   have hpos : posOf 125 (b.drop (i + 1)) = some k := by
    cases hp : posOf 125 (b.drop (i + 1)) with
    | none =>
     have := zgg hp k
     rw [List.getElem?_drop, <- hk, List.getElem?_eq_getElem hlt, h125'] at this
     exact absurd rfl this
    | some k' =>
     obtain ⟨s1, s2, s3⟩ := qT hp
     rw [List.length_drop] at s1
     rw [List.getElem?_drop] at s2
     by_cases h1 : k' < k
     ·exact absurd s2 (q4 (i + 1 + k') (by omega) (by omega))
     ·by_cases h2 : k < k'
      ·have := s3 k h2
       rw [List.getElem?_drop, <- hk, List.getElem?_eq_getElem hlt, h125'] at this
       exact absurd rfl this
      ·rw [show k' = k by omega]
   simp only [hpos]
   rw [<- hk]
   have hb2 : js ((i + 1 : Nat) : Int) ((r : Nat) : Int) b.length = true := qY (by omega) (by omega)
   simp only [cond_false, hb2, Bool.and_true, cond_true]
   rw [zmE N hN]
   unfold zoZ
   simp only [Option.bind_some]
   clear bad q5 q4 q3 hpos
   cases hn : zep (slice b (i + 1) r) with
   | none => rfl
   | some n =>
    have hn2 := zl0 hn
    have w3 : IntKind.wrap .i64 (((r : Nat) : Int) + 3) = ((r + 3 : Nat) : Int) := by rw [wri (by omega) (by omega)]; omega
    have w4 : IntKind.wrap .i64 (((r : Nat) : Int) + 1) = ((r + 1 : Nat) : Int) := by rw [wri (by omega) (by omega)]; omega
    have w5 : IntKind.wrap .i64 (((r : Nat) : Int) + 2) = ((r + 2 : Nat) : Int) := by rw [wri (by omega) (by omega)]; omega
    have w10 : IntKind.wrap .i64 ((n : Nat) : Int) = ((n : Nat) : Int) := wri (by omega) (by omega)
    have w11 : IntKind.wrap .i64 (((r + 3 : Nat) : Int) + ((n : Nat) : Int)) = ((r + 3 + n : Nat) : Int) := by rw [wri (by omega) (by omega)]; omega
    have w12 : IntKind.wrap .i64 (((b.length : Nat) : Int) - ((r + 3 : Nat) : Int)) = ((b.length : Nat) : Int) - ((r + 3 : Nat) : Int) := wri (by omega) (by omega)
    simp only [Bool.not_true, cond_false, w3, w4, w5, w10, w11, w12]
    by_cases c1 : n <= 65536
    ·have e1 : decide ((65536 : Int) < ((n : Nat) : Int)) = false := by simp; omega
     simp only [e1, cond_false]
     by_cases c2 : r + 3 <= b.length
     ·have e2 : decide (((b.length : Nat) : Int) < ((r + 3 : Nat) : Int)) = false := by simp; omega
      have l1 : r + 1 < b.length := by omega
      have l2 : r + 2 < b.length := by omega
      simp only [e2, cond_false, zX l1, zX l2, cond_true, Int.toNat_natCast, jH (u := .u8) l1, jH (u := .u8) l2, List.getElem?_eq_getElem l1, List.getElem?_eq_getElem l2, Option.some.injEq]
      cases h13 : b[r + 1] != (13 : UInt8) with
      | true =>
       have h13' : ¬ b[r + 1] = 13 := by simpa using h13
       simp only [cond_true]
       rw [if_neg (fun h => h13' h.2.1)]
      | false =>
       have h13' : b[r + 1] = 13 := by simpa using h13
       simp only [cond_false, h13', true_and]
       cases h10 : b[r + 2] != (10 : UInt8) with
       | true =>
        have h10' : ¬ b[r + 2] = 10 := by simpa using h10
        simp only [cond_true]
        rw [if_neg (fun h => h10' h.2.1)]
       | false =>
        have h10' : b[r + 2] = 10 := by simpa using h10
        simp only [cond_false, h10', true_and]
        by_cases c4 : r + 3 + n <= b.length
        ·have e4 : decide (((b.length : Nat) : Int) - ((r + 3 : Nat) : Int) < ((n : Nat) : Int)) = false := by simp only [decide_eq_false_iff_not]; omega
         have hb3 : js ((r + 3 : Nat) : Int) ((r + 3 + n : Nat) : Int) b.length = true := qY (by omega) (by omega)
         have hsl : (slice b (r + 3) (r + 3 + n)).length <= b.length := zbU
         simp only [e4, cond_false, hb3, cond_true, zbR (show 0 + (slice b (r + 3) (r + 3 + n)).length <= 200000 by omega), List.nil_append]
         rw [if_pos ⟨c1, c4⟩]
        ·have e4 : decide (((b.length : Nat) : Int) - ((r + 3 : Nat) : Int) < ((n : Nat) : Int)) = true := by simp only [decide_eq_true_eq]; omega
         simp only [e4, cond_true]
         rw [if_neg (fun h => c4 h.2)]
     ·have e2 : decide (((b.length : Nat) : Int) < ((r + 3 : Nat) : Int)) = true := by simp; omega
      simp only [e2, cond_true]
      rw [if_neg (fun h => c2 (by omega))]
    ·have e1 : decide ((65536 : Int) < ((n : Nat) : Int)) = true := by simp; omega
     simp only [e1, cond_true]
     rw [if_neg (fun h => c1 h.1)]
abbrev Tok := Int × (List UInt8 × Int)
def jU (b : List UInt8) (i : Nat) : Option (Tok × Nat) :=
 match b[i]? with
 | none => some ((0, [], (i : Int)), i)
 | some c =>
  if c = 32 then some ((1, [], (i : Int)), i + 1)
  else if c = 40 then some ((2, [], (i : Int)), i + 1)
  else if c = 41 then some ((3, [], (i : Int)), i + 1)
  else if c = 34 then match sq (b.drop (i + 1)) with
   | some (r, n) => some ((5, r, (i : Int)), i + 1 + n)
   | none => none
  else if c = 123 then match posOf 125 (b.drop (i + 1)) with
   | none => none
   | some k => match zep (slice b (i + 1) (i + 1 + k)) with
    | none => none
    | some n => if n <= 65536 /\ b[i + 1 + k + 1]? = some 13 /\ b[i + 1 + k + 2]? = some 10 /\ i + 1 + k + 3 + n <= b.length then some ((6, slice b (i + 1 + k + 3) (i + 1 + k + 3 + n), (i : Int)), i + 1 + k + 3 + n) else none
  else if 0 < run jv (b.drop i) then some ((4, slice b i (i + run jv (b.drop i)), (i : Int)), i + run jv (b.drop i))
  else none
theorem zgO {b : List UInt8} {i n : Nat} {t : Tok} (hi : i < b.length) (h : jU b i = some (t, n)) : i < n /\ n <= b.length := by
 unfold jU at h
 rw [List.getElem?_eq_getElem hi] at h
 simp only at h
 split at h
 ·cases h; omega
 ·split at h
  ·cases h; omega
  ·split at h
   ·cases h; omega
   ·split at h
    ·split at h
     ·rename_i r k hr
      have := zkl _ hr
      rw [List.length_drop] at this
      cases h; omega
     ·cases h
    ·split at h
     ·split at h
      ·cases h
      ·rename_i k hk
       split at h
       ·cases h
       ·split at h
        ·rename_i hc
         cases h; omega
        ·cases h
     ·split at h
      ·have := zgx jv (b.drop i)
       rw [List.length_drop] at this
       cases h; omega
      ·cases h
theorem zmP {b : List UInt8} {i : Nat} (hi : i < b.length) (hc : b[i] = 34) : zqL b i = match sq (b.drop (i + 1)) with
  | some (r, n) => some (r, ((i + 1 + n : Nat) : Int), true, ())
  | none => some ([], 0, false, ()) := by
 unfold zqL
 rw [List.getElem?_eq_getElem hi, hc, if_pos rfl]
 cases sq (b.drop (i + 1)) with
 | none => rfl
 | some p => obtain ⟨r, n⟩ := p; rfl
theorem zrr (N : Nat) (b : List UInt8) (hb : b.length <= 20000) (i : Nat) : ∀ (m p : Nat), p <= b.length -> b.length < m + p ->
  qa N m ((i : Nat) : Int) b ((p : Nat) : Int) = some (((i : Nat) : Int), b, ((p + run jv (b.drop p) : Nat) : Int))
 | 0, p, h, h' => by omega
 | m + 1, p, h, h' => by
  unfold qa kM
  by_cases hi : p < b.length
  ·simp only [zhN hi, cond_true, zX hi, Int.toNat_natCast, jH (u := .u8) hi, zsB, Option.bind_some, drop_one hi, run]
   cases hc : jv b[p] with
   | true =>
    simp only [cond_true, if_true]
    rw [wri (by omega) (by omega), show ((p : Int) + 1) = ((p + 1 : Nat) : Int) by omega, zrr N b hb i m (p + 1) (by omega) (by omega)]
    congr 4; omega
   | false => simp
  ·simp only [zhM hi, cond_false]
   rw [List.drop_eq_nil_of_le (by omega)]
   simp [run]
theorem zo6 (N : Nat) (b : List UInt8) (hb : b.length <= 20000) (i : Nat) : ∀ (m p : Nat), p <= b.length -> b.length < m + p ->
  qP N m b ((i : Nat) : Int) ((p : Nat) : Int) = some (b, ((i : Nat) : Int), ((p + run jv (b.drop p) : Nat) : Int))
 | 0, p, h, h' => by omega
 | m + 1, p, h, h' => by
  unfold qP zaW
  by_cases hi : p < b.length
  ·simp only [zhN hi, cond_true, zX hi, Int.toNat_natCast, jH (u := .u8) hi, zsz, Option.bind_some, drop_one hi, run]
   cases hc : jv b[p] with
   | true =>
    simp only [cond_true, if_true]
    rw [wri (by omega) (by omega), show ((p : Int) + 1) = ((p + 1 : Nat) : Int) by omega, zo6 N b hb i m (p + 1) (by omega) (by omega)]
    congr 4; omega
   | false => simp
  ·simp only [zhM hi, cond_false]
   rw [List.drop_eq_nil_of_le (by omega)]
   simp [run]
theorem zn7 (N : Nat) (b : List UInt8) (hb : b.length <= 20000) (hN : 20 <= N) (hN2 : b.length < N) (i : Nat) (hi : i <= b.length) : (∀ t n, jU b i = some (t, n) -> kk N b (i : Int) = some (t, ((n : Nat) : Int), true, ())) /\ (jU b i = none -> ∃ t n, kk N b (i : Int) = some (t, n, false, ())) := by
 unfold kk jU
 by_cases he : i = b.length
 ·subst he
  rw [List.getElem?_eq_none (Nat.le_refl _)]
  simp only [show (((b.length : Nat) : Int) == ((b.length : Nat) : Int)) = true from beq_self_eq_true _, cond_true]
  exact ⟨fun t n h => by cases h; rfl, fun h => by cases h⟩
 ·have hlt : i < b.length := by omega
  have e : (((i : Nat) : Int) == ((b.length : Nat) : Int)) = false := by simp; omega
  have w1 : IntKind.wrap .i64 ((i : Int) + 1) = ((i + 1 : Nat) : Int) := by rw [wri (by omega) (by omega)]; omega
  rw [List.getElem?_eq_getElem hlt]
  simp only [e, cond_false, zX hlt, cond_true, Int.toNat_natCast, jH (u := .u8) hlt, w1]
  cases h1 : b[i] == (32 : UInt8) with
  | true =>
   rw [beq_iff_eq] at h1
   rw [if_pos h1]
   exact ⟨fun t n h => by cases h; rfl, fun h => by cases h⟩
  | false =>
   have h1' : ¬ b[i] = 32 := by simpa using h1
   rw [if_neg h1']
   cases h2 : b[i] == (40 : UInt8) with
   | true =>
    rw [beq_iff_eq] at h2
    rw [if_pos h2]
    exact ⟨fun t n h => by cases h; rfl, fun h => by cases h⟩
   | false =>
    have h2' : ¬ b[i] = 40 := by simpa using h2
    rw [if_neg h2']
    cases h3 : b[i] == (41 : UInt8) with
    | true =>
     rw [beq_iff_eq] at h3
     rw [if_pos h3]
     exact ⟨fun t n h => by cases h; rfl, fun h => by cases h⟩
    | false =>
     have h3' : ¬ b[i] = 41 := by simpa using h3
     rw [if_neg h3']
     cases h4 : b[i] == (34 : UInt8) with
     | true =>
      rw [beq_iff_eq] at h4
      rw [if_pos h4]
      simp only [cond_false, cond_true, zpL N b (by omega) hN2 i hlt, zmP hlt h4]
      cases hs : sq (b.drop (i + 1)) with
      | none => exact ⟨fun t n h => (by cases h), fun h => ⟨_, _, rfl⟩⟩
      | some p => obtain ⟨r, n⟩ := p; exact ⟨fun t n h => by cases h; rfl, fun h => by cases h⟩
     | false =>
      have h4' : ¬ b[i] = 34 := by simpa using h4
      rw [if_neg h4']
      cases h5 : b[i] == (123 : UInt8) with
      | true =>
       rw [beq_iff_eq] at h5
       rw [if_pos h5]
       simp only [cond_false, cond_true, zpw N b hb hN hN2 i hlt h5]
       unfold zqU
       cases hp : posOf 125 (b.drop (i + 1)) with
       | none => exact ⟨fun t n h => (by cases h), fun h => ⟨_, _, rfl⟩⟩
       | some k =>
        cases hv : zep (slice b (i + 1) (i + 1 + k)) with
        | none =>
         simp only [hv]
         exact ⟨fun t n h => (by cases h), fun h => ⟨_, _, rfl⟩⟩
        | some n =>
         simp only [hv]
         by_cases hc : n <= 65536 /\ b[i + 1 + k + 1]? = some 13 /\ b[i + 1 + k + 2]? = some 10 /\ i + 1 + k + 3 + n <= b.length
         ·rw [if_pos hc, if_pos hc]
          exact ⟨fun t n h => by cases h; rfl, fun h => by cases h⟩
         ·rw [if_neg hc, if_neg hc]
          exact ⟨fun t n h => (by cases h), fun h => ⟨_, _, rfl⟩⟩
      | false =>
       have h5' : ¬ b[i] = 123 := by simpa using h5
       rw [if_neg h5']
       have hr := zgx jv (b.drop i)
       rw [List.length_drop] at hr
       simp only [cond_false, zo6 N b hb i N i (by omega) (by omega), Option.bind_some]
       generalize run jv (b.drop i) = r at hr |-
       have hbn : js ((i : Nat) : Int) ((i + r : Nat) : Int) b.length = true := qY (by omega) (by omega)
       simp only [hbn, Bool.and_true, cond_true, Int.toNat_natCast]
       by_cases h0 : 0 < r
       ·rw [if_pos h0]
        have : decide (((i : Nat) : Int) < ((i + r : Nat) : Int)) = true := by simp; omega
        rw [this]
        exact ⟨fun t n h => by cases h; rfl, fun h => by cases h⟩
       ·rw [if_neg h0]
        have : decide (((i : Nat) : Int) < ((i + r : Nat) : Int)) = false := by simp; omega
        rw [this]
        exact ⟨fun t n h => (by cases h), fun h => ⟨_, _, rfl⟩⟩
def xL (b : List UInt8) : Nat -> Nat -> List Tok ⊕ Nat
 | 0, i => .inr i
 | f + 1, i => match jU b i with
  | none => .inr i
  | some (t, n) => if b.length <= i then .inl [t] else match xL b f n with
   | .inl l => .inl (t :: l)
   | .inr a => .inr a
theorem zqZ {b : List UInt8} {i n : Nat} {t : Tok} (h : jU b i = some (t, n)) : t.1 = 0 ↔ b.length <= i := by
 unfold jU at h
 by_cases hi : i < b.length
 ·rw [List.getElem?_eq_getElem hi] at h
  simp only at h
  constructor
  ·intro h0
   exfalso
   split at h
   ·cases h; simp at h0
   ·split at h
    ·cases h; simp at h0
    ·split at h
     ·cases h; simp at h0
     ·split at h
      ·split at h <;> cases h; simp at h0
      ·split at h
       ·split at h
        ·cases h
        ·split at h
         ·cases h
         ·split at h <;> cases h; simp at h0
       ·split at h <;> cases h; simp at h0
  ·intro; omega
 ·rw [List.getElem?_eq_none (by omega)] at h
  cases h
  exact ⟨fun _ => by omega, fun _ => rfl⟩
def zqM (o : List Tok ⊕ Nat) : Option ((List Tok) × Int × Unit) := some (match o with
 | .inl l => (l, -1, ())
 | .inr a => ([], ((a : Nat) : Int), ()))
theorem zpp (N : Nat) (b : List UInt8) (hb : b.length <= 20000) (hN : 20 <= N) (hN2 : b.length < N) : ∀ (m i : Nat) (out : List Tok), i <= b.length -> out.length <= i -> b.length < m + i ->
  zK N m b ((i : Nat) : Int) out = (match xL b m i with
   | .inl l => some (Sum.inr (out ++ l))
   | .inr a => zK N m b ((i : Nat) : Int) out) /\ (∀ a, xL b m i = .inr a -> ∃ o, zK N m b ((i : Nat) : Int) out = some (Sum.inl (((a : Nat) : Int), o)))
 | 0, i, out, h, ho, h' => by omega
 | m + 1, i, out, h, ho, h' => by
  obtain ⟨n1, n2⟩ := zn7 N b hb hN hN2 i h
  unfold zK kP xL
  cases hn : jU b i with
  | none =>
   obtain ⟨t, n, h3⟩ := n2 hn
   simp only [h3, Option.bind_some, Bool.not_false, cond_true]
   exact ⟨trivial, fun a ha => by cases ha; exact ⟨_, rfl⟩⟩
  | some p =>
   obtain ⟨t, n⟩ := p
   have h3 := n1 t n hn
   have hk := zqZ hn
   simp only [h3, Option.bind_some, Bool.not_true, cond_false, zbR (show out.length + 1 <= 200000 by omega), cond_true]
   by_cases hi : b.length <= i
   ·rw [if_pos hi]
    have : (t.1 == (0 : Int)) = true := by rw [beq_iff_eq]; exact hk.2 hi
    simp only [this, cond_true]
    exact ⟨by first | trivial | rfl, fun a ha => by cases ha⟩
   ·rw [if_neg hi]
    have h0 : (t.1 == (0 : Int)) = false := by
     cases e : t.1 == (0 : Int) with
     | false => rfl
     | true => rw [beq_iff_eq] at e; exact absurd (hk.1 e) hi
    have hl := zgO (by omega) hn
    obtain ⟨q1, q2⟩ := zpp N b hb hN hN2 m n (out ++ [t]) (by omega) (by simp; omega) (by omega)
    simp only [h0, cond_false]
    cases hr : xL b m n with
    | inl l =>
     rw [hr] at q1
     simp only at q1 |-
     refine ⟨?_, fun a ha => by cases ha⟩
     rw [q1, List.append_assoc]; rfl
    | inr a =>
     simp only
     exact ⟨trivial, fun a' ha => by cases ha; exact q2 a hr⟩
theorem zog (N : Nat) (b : List UInt8) (hb : b.length <= 20000) (hN : 20 <= N) (hN2 : b.length < N) : wW N b = zqM (xL b N 0) := by
 unfold wW zqM
 obtain ⟨q1, q2⟩ := zpp N b hb hN hN2 N 0 [] (by omega) (by simp) (by omega)
 rw [show ((0 : Nat) : Int) = (0 : Int) from rfl] at q1 q2
 cases hr : xL b N 0 with
 | inl l =>
  rw [hr] at q1
  simp only at q1
  rw [q1]; rfl
 | inr a =>
  obtain ⟨o, h⟩ := q2 a hr
  rw [h]; rfl
theorem zpr (N : Nat) (b : List UInt8) (hb : b.length <= 20000) (hN : 20 <= N) (hN2 : b.length < N) : ∀ (m i : Nat) (out : List Tok), i <= b.length -> out.length <= i -> b.length < m + i ->
  (∀ l, xL b m i = .inl l -> ∃ x y, zH N m b ((i : Nat) : Int) out = some (Sum.inl (x, y, out ++ l))) /\ (∀ a, xL b m i = .inr a -> ∃ x y z, zH N m b ((i : Nat) : Int) out = some (Sum.inr (((a : Nat) : Int), x, y, z)))
 | 0, i, out, h, ho, h' => by omega
 | m + 1, i, out, h, ho, h' => by
  unfold zH kO xL
  have recu : ∀ (t : Tok) (n : Nat), jU b i = some (t, n) -> i < b.length -> (∀ l, (match jU b i with
    | none => .inr i
    | some (t, n) => if b.length <= i then .inl [t] else match xL b m n with
     | .inl l => .inl (t :: l)
     | .inr a => .inr a : List Tok ⊕ Nat) = .inl l -> ∃ x y, zH N m b ((n : Nat) : Int) (out ++ [t]) = some (Sum.inl (x, y, out ++ l))) /\ (∀ a, (match jU b i with
    | none => .inr i
    | some (t, n) => if b.length <= i then .inl [t] else match xL b m n with
     | .inl l => .inl (t :: l)
     | .inr a => .inr a : List Tok ⊕ Nat) = .inr a -> ∃ x y z, zH N m b ((n : Nat) : Int) (out ++ [t]) = some (Sum.inr (((a : Nat) : Int), x, y, z))) := by
   intro t n hn hlt
   have hl := zgO hlt hn
   obtain ⟨q1, q2⟩ := zpr N b hb hN hN2 m n (out ++ [t]) (by omega) (by simp; omega) (by omega)
   rw [hn]
   simp only [if_neg (show ¬ b.length <= i by omega)]
   cases hr : xL b m n with
   | inl l =>
    obtain ⟨x, y, h3⟩ := q1 l hr
    exact ⟨fun l' h => by cases h; exact ⟨x, y, by rw [h3, List.append_assoc]; rfl⟩, fun a h => by cases h⟩
   | inr a =>
    obtain ⟨x, y, z, h3⟩ := q2 a hr
    exact ⟨fun l' h => (by cases h), fun a' h => by cases h; exact ⟨x, y, z, h3⟩⟩
  have stop : jU b i = none -> ∀ (x : List UInt8) (y : Int) (z : List Tok), (∀ l, (match jU b i with
    | none => .inr i
    | some (t, n) => if b.length <= i then .inl [t] else match xL b m n with
     | .inl l => .inl (t :: l)
     | .inr a => .inr a : List Tok ⊕ Nat) = .inl l -> ∃ x' y', (some (Sum.inr (((i : Nat) : Int), x, y, z)) : Option ((List UInt8 × Int × List Tok) ⊕ (Int × List UInt8 × Int × List Tok))) = some (Sum.inl (x', y', out ++ l))) /\ (∀ a, (match jU b i with
    | none => .inr i
    | some (t, n) => if b.length <= i then .inl [t] else match xL b m n with
     | .inl l => .inl (t :: l)
     | .inr a => .inr a : List Tok ⊕ Nat) = .inr a -> ∃ x' y' z', (some (Sum.inr (((i : Nat) : Int), x, y, z)) : Option ((List UInt8 × Int × List Tok) ⊕ (Int × List UInt8 × Int × List Tok))) = some (Sum.inr (((a : Nat) : Int), x', y', z'))) := by
   intro hn x y z
   rw [hn]
   exact ⟨fun l h => (by cases h), fun a h => by cases h; exact ⟨_, _, _, rfl⟩⟩
  by_cases he : i = b.length
  ·subst he
   have hn : jU b b.length = some ((0, [], ((b.length : Nat) : Int)), b.length) := by unfold jU; rw [List.getElem?_eq_none (Nat.le_refl _)]
   rw [hn]
   simp only [show (((b.length : Nat) : Int) == ((b.length : Nat) : Int)) = true from beq_self_eq_true _, cond_true, zbR (show out.length + 1 <= 200000 by omega), Nat.le_refl, if_true]
   exact ⟨fun l h => by cases h; exact ⟨_, _, rfl⟩, fun a h => by cases h⟩
  ·have hlt : i < b.length := by omega
   have e : (((i : Nat) : Int) == ((b.length : Nat) : Int)) = false := by simp; omega
   have w1 : IntKind.wrap .i64 ((i : Int) + 1) = ((i + 1 : Nat) : Int) := by rw [wri (by omega) (by omega)]; omega
   have hg : b[i]? = some b[i] := List.getElem?_eq_getElem hlt
   simp only [e, cond_false, zX hlt, cond_true, Int.toNat_natCast, jH (u := .u8) hlt, w1, zbR (show out.length + 1 <= 200000 by omega)]
   cases h1 : b[i] == (32 : UInt8) with
   | true =>
    rw [beq_iff_eq] at h1
    exact recu _ _ (by unfold jU; rw [hg]; simp only [h1, if_true]) hlt
   | false =>
    have h1' : ¬ b[i] = 32 := by simpa using h1
    cases h2 : b[i] == (40 : UInt8) with
    | true =>
     rw [beq_iff_eq] at h2
     exact recu _ _ (by unfold jU; rw [hg]; simp only [if_neg h1', if_pos h2]) hlt
    | false =>
     have h2' : ¬ b[i] = 40 := by simpa using h2
     cases h3 : b[i] == (41 : UInt8) with
     | true =>
      rw [beq_iff_eq] at h3
      exact recu _ _ (by unfold jU; rw [hg]; simp only [if_neg h1', if_neg h2', if_pos h3]) hlt
     | false =>
      have h3' : ¬ b[i] = 41 := by simpa using h3
      cases h4 : b[i] == (34 : UInt8) with
      | true =>
       rw [beq_iff_eq] at h4
       simp only [cond_false, cond_true, zoI N b (by omega) hN2 i hlt, zmP hlt h4]
       cases hs : sq (b.drop (i + 1)) with
       | none =>
        simp only [Option.bind_some, cond_false, Bool.not_false, cond_true]
        exact stop (by unfold jU; rw [hg]; simp only [if_neg h1', if_neg h2', if_neg h3', if_pos h4, hs]) _ _ _
       | some p =>
        obtain ⟨r, n⟩ := p
        simp only [Option.bind_some, cond_true, Bool.not_true, cond_false]
        exact recu _ _ (by unfold jU; rw [hg]; simp only [if_neg h1', if_neg h2', if_neg h3', if_pos h4, hs]) hlt
      | false =>
       have h4' : ¬ b[i] = 34 := by simpa using h4
       cases h5 : b[i] == (123 : UInt8) with
       | true =>
        rw [beq_iff_eq] at h5
        simp only [cond_false, cond_true, zoa N b hb (by omega) i hlt h5]
        unfold zqU
        cases hp : posOf 125 (b.drop (i + 1)) with
        | none =>
         simp only [Option.bind_some, cond_false, Bool.not_false, cond_true]
         exact stop (by unfold jU; rw [hg]; simp only [if_neg h1', if_neg h2', if_neg h3', if_neg h4', if_pos h5, hp]) _ _ _
        | some k =>
         cases hv : zep (slice b (i + 1) (i + 1 + k)) with
         | none =>
          simp only [hv, Option.bind_some, cond_false, Bool.not_false, cond_true]
          exact stop (by unfold jU; rw [hg]; simp only [if_neg h1', if_neg h2', if_neg h3', if_neg h4', if_pos h5, hp, hv]) _ _ _
         | some n =>
          by_cases hc : n <= 65536 /\ b[i + 1 + k + 1]? = some 13 /\ b[i + 1 + k + 2]? = some 10 /\ i + 1 + k + 3 + n <= b.length
          ·simp only [hv, if_pos hc, Option.bind_some, cond_true, Bool.not_true, cond_false]
           exact recu _ _ (by unfold jU; rw [hg]; simp only [if_neg h1', if_neg h2', if_neg h3', if_neg h4', if_pos h5, hp, hv, if_pos hc]) hlt
          ·simp only [hv, if_neg hc, Option.bind_some, cond_false, Bool.not_false, cond_true]
           exact stop (by unfold jU; rw [hg]; simp only [if_neg h1', if_neg h2', if_neg h3', if_neg h4', if_pos h5, hp, hv, if_neg hc]) _ _ _
       | false =>
        have h5' : ¬ b[i] = 123 := by simpa using h5
        have hr := zgx jv (b.drop i)
        rw [List.length_drop] at hr
        simp only [cond_false, zrr N b hb i N i (by omega) (by omega), Option.bind_some]
        have hbn : js ((i : Nat) : Int) ((i + run jv (b.drop i) : Nat) : Int) b.length = true := qY (by omega) (by omega)
        simp only [hbn, Bool.and_true, cond_true, Int.toNat_natCast]
        by_cases h0 : 0 < run jv (b.drop i)
        ·have : decide (((i : Nat) : Int) < ((i + run jv (b.drop i) : Nat) : Int)) = true := by simp; omega
         simp only [this, Bool.not_true, cond_false]
         exact recu _ _ (by unfold jU; rw [hg]; simp only [if_neg h1', if_neg h2', if_neg h3', if_neg h4', if_neg h5', if_pos h0]) hlt
        ·have : decide (((i : Nat) : Int) < ((i + run jv (b.drop i) : Nat) : Int)) = false := by simp; omega
         simp only [this, Bool.not_false, cond_true]
         exact stop (by unfold jU; rw [hg]; simp only [if_neg h1', if_neg h2', if_neg h3', if_neg h4', if_neg h5', if_neg h0]) _ _ _
theorem zlP (N : Nat) (b : List UInt8) (hb : b.length <= 20000) (hN : 20 <= N) (hN2 : b.length < N) : kf N b = zqM (xL b N 0) := by
 unfold kf zqM
 obtain ⟨q1, q2⟩ := zpr N b hb hN hN2 N 0 [] (by omega) (by simp) (by omega)
 rw [show ((0 : Nat) : Int) = (0 : Int) from rfl] at q1 q2
 cases hr : xL b N 0 with
 | inl l =>
  obtain ⟨x, y, h⟩ := q1 l hr
  rw [h]; rfl
 | inr a =>
  obtain ⟨x, y, z, h⟩ := q2 a hr
  rw [h]; rfl
def up (c : UInt8) : UInt8 := cond (decide ((97 : UInt8) <= c)) (cond (decide (c <= (122 : UInt8))) (c - 32) c) c
theorem zq9 (c : UInt8) (h1 : decide ((97 : UInt8) <= c) = true) (h2 : decide (c <= (122 : UInt8)) = true) : c &&& ~~~(32 : UInt8) = c - 32 := by
 have key : ∀ n : Fin 256, decide ((97 : UInt8) <= UInt8.ofNat n.val) = true -> decide (UInt8.ofNat n.val <= (122 : UInt8)) = true -> UInt8.ofNat n.val &&& ~~~(32 : UInt8) = UInt8.ofNat n.val - 32 := by decide +kernel
 have := key ⟨c.toNat, c.toNat_lt⟩
 simp only [UInt8.ofNat_toNat] at this
 exact this h1 h2
theorem zr6 {s : List UInt8} {i : Nat} (h : i < s.length) : ((s.take i).map up ++ s.drop i).set i (up s[i]) = (s.take (i + 1)).map up ++ s.drop (i + 1) := by
 have hl : ((s.take i).map up).length = i := by rw [List.length_map, List.length_take]; omega
 rw [List.set_append, if_neg (by omega), hl, Nat.sub_self, drop_one h, List.set_cons_zero, List.take_succ_eq_append_getElem h, List.map_append, List.append_assoc]
 rfl
theorem zrQ {s : List UInt8} {i : Nat} (h : i < s.length) : nth .u8 ((s.take i).map up ++ s.drop i) i = s[i] := by
 have hl : ((s.take i).map up).length = i := by rw [List.length_map, List.length_take]; omega
 have h2 : i < ((s.take i).map up ++ s.drop i).length := by rw [List.length_append, hl, List.length_drop]; omega
 rw [show nth .u8 ((s.take i).map up ++ s.drop i) i = ((s.take i).map up ++ s.drop i)[i] from jH h2, List.getElem_append_right (by omega)]
 simp only [hl, Nat.sub_self, List.getElem_drop, Nat.add_zero]
theorem zgH (N : Nat) (s : List UInt8) (hs : s.length <= 2000) : ∀ (m i : Nat), i <= s.length -> s.length < m + i ->
  qR N m (s.length : Int) (i : Int) ((s.take i).map up ++ s.drop i) = some (s.map up)
 | 0, i, h, h' => by omega
 | m + 1, i, h, h' => by
  unfold qR zaB
  by_cases hi : i < s.length
  ·have hlen : i < ((s.take i).map up ++ s.drop i).length := by rw [List.length_append, List.length_map, List.length_take, List.length_drop]; omega
   have hn : nth .u8 ((s.take i).map up ++ s.drop i) (Int.toNat (i : Int)) = s[i] := by rw [Int.toNat_natCast]; exact zrQ hi
   simp only [zhN hi, cond_true, zX hlen]
   generalize nth .u8 ((s.take i).map up ++ s.drop i) (Int.toNat (i : Int)) = c at hn |-
   subst hn
   rw [Int.toNat_natCast, wri (by omega) (by omega), show ((i : Int) + 1) = ((i + 1 : Nat) : Int) by omega]
   have ih := zgH N s hs m (i + 1) (by omega) (by omega)
   rw [<- zr6 hi] at ih
   cases h1 : decide ((97 : UInt8) <= s[i]) with
   | true =>
    cases h2 : decide (s[i] <= (122 : UInt8)) with
    | true =>
     simp only [cond_true]
     rw [zq9 _ h1 h2]
     simpa only [up, h1, h2, cond_true] using ih
    | false =>
     simp only [cond_true, cond_false]
     simpa only [up, h1, h2, cond_true, cond_false] using ih
   | false =>
    simp only [cond_false]
    simpa only [up, h1, cond_false] using ih
  ·rw [zhM hi, List.take_of_length_le (by omega), List.drop_of_length_le (by omega), List.append_nil]; rfl
theorem zca (s : List UInt8) (hs : s.length <= 2000) : qZ 3000 s = some (s.map up, ()) := by
 unfold qZ
 rw [show Nat.blt s.length jd = true by rw [Nat.blt_eq]; unfold jd; omega, cond_true]
 have := zgH 3000 s hs 3000 0 (by omega) (by omega)
 rw [List.take_zero, List.drop_zero, List.map_nil, List.nil_append, show ((0 : Nat) : Int) = 0 from rfl] at this
 rw [this]; rfl
theorem zft (N : Nat) (s : List UInt8) (hs : s.length <= 2000) : ∀ (m i : Nat), i <= s.length -> s.length < m + i ->
  qB N m s ((s.take i).map up) (i : Int) = some (s.map up)
 | 0, i, h, h' => by omega
 | m + 1, i, h, h' => by
  unfold qB zaj
  by_cases hi : i < s.length
  ·have hn : nth .u8 s (Int.toNat (i : Int)) = s[i] := by rw [Int.toNat_natCast]; exact jH hi
   have hcap : ∀ c : UInt8, decide (((s.take i).map up).length + ([c] : List UInt8).length < 4611686018427387904) = true := fun c => by
    rw [decide_eq_true_eq, List.length_map, List.length_take]; simp; omega
   simp only [zhN hi, cond_true, zX hi, hcap]
   generalize nth .u8 s (Int.toNat (i : Int)) = c at hn |-
   subst hn
   rw [wri (by omega) (by omega), show ((i : Int) + 1) = ((i + 1 : Nat) : Int) by omega]
   have ih := zft N s hs m (i + 1) (by omega) (by omega)
   rw [List.take_succ_eq_append_getElem hi, List.map_append, show [s[i]].map up = [up s[i]] from rfl] at ih
   cases h1 : decide ((97 : UInt8) <= s[i]) with
   | true =>
    cases h2 : decide (s[i] <= (122 : UInt8)) with
    | true =>
     simp only [cond_true]
     simpa only [up, h1, h2, cond_true] using ih
    | false =>
     simp only [cond_true, cond_false]
     simpa only [up, h1, h2, cond_true, cond_false] using ih
   | false =>
    simp only [cond_false]
    simpa only [up, h1, cond_false] using ih
  ·rw [zhM hi, List.take_of_length_le (by omega)]; rfl
theorem za0 (s : List UInt8) (hs : s.length <= 2000) : zm 3000 s = some (s.map up, ()) := by
 unfold zm
 have := zft 3000 s hs 3000 0 (by omega) (by omega)
 rw [List.take_zero, List.map_nil, show ((0 : Nat) : Int) = 0 from rfl] at this
 rw [this]; rfl
def zsD : List (List UInt8) := [([78, 79, 79, 80] : List UInt8), ([76, 79, 71, 79, 85, 84] : List UInt8), ([67, 76, 79, 83, 69] : List UInt8), ([69, 88, 80, 85, 78, 71, 69] : List UInt8), ([83, 69, 76, 69, 67, 84] : List UInt8), ([65, 80, 80, 69, 78, 68] : List UInt8), ([70, 69, 84, 67, 72] : List UInt8), ([83, 84, 79, 82, 69] : List UInt8)]
theorem zoN (u : List UInt8) : zi 3000 3000 zsD u 8 0 = (cond (u == ([78, 79, 79, 80] : List UInt8)) (some (.inl 0)) (cond (u == ([76, 79, 71, 79, 85, 84] : List UInt8)) (some (.inl 1)) (cond (u == ([67, 76, 79, 83, 69] : List UInt8)) (some (.inl 2)) (cond (u == ([69, 88, 80, 85, 78, 71, 69] : List UInt8)) (some (.inl 3)) (cond (u == ([83, 69, 76, 69, 67, 84] : List UInt8)) (some (.inl 4)) (cond (u == ([65, 80, 80, 69, 78, 68] : List UInt8)) (some (.inl 5)) (cond (u == ([70, 69, 84, 67, 72] : List UInt8)) (some (.inl 6)) (cond (u == ([83, 84, 79, 82, 69] : List UInt8)) (some (.inl 7)) (some (.inr ())))))))))) := by kernel_rfl
def items : List (List UInt8) := [([70, 76, 65, 71, 83] : List UInt8), ([85, 73, 68] : List UInt8), ([82, 70, 67, 56, 50, 50, 46, 83, 73, 90, 69] : List UInt8), ([66, 79, 68, 89, 46, 80, 69, 69, 75, 91, 93] : List UInt8), ([66, 79, 68, 89, 91, 93] : List UInt8)]
theorem zow (u : List UInt8) : zi 3000 3000 items u 5 0 = (cond (u == ([70, 76, 65, 71, 83] : List UInt8)) (some (.inl 0)) (cond (u == ([85, 73, 68] : List UInt8)) (some (.inl 1)) (cond (u == ([82, 70, 67, 56, 50, 50, 46, 83, 73, 90, 69] : List UInt8)) (some (.inl 2)) (cond (u == ([66, 79, 68, 89, 46, 80, 69, 69, 75, 91, 93] : List UInt8)) (some (.inl 3)) (cond (u == ([66, 79, 68, 89, 91, 93] : List UInt8)) (some (.inl 4)) (some (.inr ()))))))) := by kernel_rfl
theorem zkP (a b : List UInt8) : (a == b) = (b == a) := by rw [Bool.eq_iff_iff, beq_iff_eq, beq_iff_eq]; exact eq_comm
theorem zrR (s u : List UInt8) (hU : zm 3000 s = some (u, ())) : zb 3000 3000 s 1 = (cond (u == ([78, 79, 79, 80] : List UInt8)) (some (.inl 1)) (cond (u == ([76, 79, 71, 79, 85, 84] : List UInt8)) (some (.inl 2)) (cond (u == ([67, 76, 79, 83, 69] : List UInt8)) (some (.inl 3)) (cond (u == ([69, 88, 80, 85, 78, 71, 69] : List UInt8)) (some (.inl 4)) (cond (u == ([83, 69, 76, 69, 67, 84] : List UInt8)) (some (.inl 5)) (cond (u == ([65, 80, 80, 69, 78, 68] : List UInt8)) (some (.inl 6)) (cond (u == ([70, 69, 84, 67, 72] : List UInt8)) (some (.inl 7)) (cond (u == ([83, 84, 79, 82, 69] : List UInt8)) (some (.inl 8)) (some (.inr ())))))))))) := by
 have s0 : zb 3000 3000 s 1 = cond (u == ([78, 79, 79, 80] : List UInt8)) (some (.inl 1)) (zb 3000 2999 s 2) := by
  rw [show zb 3000 3000 s 1 = (Option.bind (zm 3000 s) fun y => cond (([78, 79, 79, 80] : List UInt8) == y.1) (some (.inl 1)) (zb 3000 2999 s 2)) from by kernel_rfl, hU, zkP u]; rfl
 have s1 : zb 3000 2999 s 2 = cond (u == ([76, 79, 71, 79, 85, 84] : List UInt8)) (some (.inl 2)) (zb 3000 2998 s 3) := by
  rw [show zb 3000 2999 s 2 = (Option.bind (zm 3000 s) fun y => cond (([76, 79, 71, 79, 85, 84] : List UInt8) == y.1) (some (.inl 2)) (zb 3000 2998 s 3)) from by kernel_rfl, hU, zkP u]; rfl
 have s2 : zb 3000 2998 s 3 = cond (u == ([67, 76, 79, 83, 69] : List UInt8)) (some (.inl 3)) (zb 3000 2997 s 4) := by
  rw [show zb 3000 2998 s 3 = (Option.bind (zm 3000 s) fun y => cond (([67, 76, 79, 83, 69] : List UInt8) == y.1) (some (.inl 3)) (zb 3000 2997 s 4)) from by kernel_rfl, hU, zkP u]; rfl
 have s3 : zb 3000 2997 s 4 = cond (u == ([69, 88, 80, 85, 78, 71, 69] : List UInt8)) (some (.inl 4)) (zb 3000 2996 s 5) := by
  rw [show zb 3000 2997 s 4 = (Option.bind (zm 3000 s) fun y => cond (([69, 88, 80, 85, 78, 71, 69] : List UInt8) == y.1) (some (.inl 4)) (zb 3000 2996 s 5)) from by kernel_rfl, hU, zkP u]; rfl
 have s4 : zb 3000 2996 s 5 = cond (u == ([83, 69, 76, 69, 67, 84] : List UInt8)) (some (.inl 5)) (zb 3000 2995 s 6) := by
  rw [show zb 3000 2996 s 5 = (Option.bind (zm 3000 s) fun y => cond (([83, 69, 76, 69, 67, 84] : List UInt8) == y.1) (some (.inl 5)) (zb 3000 2995 s 6)) from by kernel_rfl, hU, zkP u]; rfl
 have s5 : zb 3000 2995 s 6 = cond (u == ([65, 80, 80, 69, 78, 68] : List UInt8)) (some (.inl 6)) (zb 3000 2994 s 7) := by
  rw [show zb 3000 2995 s 6 = (Option.bind (zm 3000 s) fun y => cond (([65, 80, 80, 69, 78, 68] : List UInt8) == y.1) (some (.inl 6)) (zb 3000 2994 s 7)) from by kernel_rfl, hU, zkP u]; rfl
 have s6 : zb 3000 2994 s 7 = cond (u == ([70, 69, 84, 67, 72] : List UInt8)) (some (.inl 7)) (zb 3000 2993 s 8) := by
  rw [show zb 3000 2994 s 7 = (Option.bind (zm 3000 s) fun y => cond (([70, 69, 84, 67, 72] : List UInt8) == y.1) (some (.inl 7)) (zb 3000 2993 s 8)) from by kernel_rfl, hU, zkP u]; rfl
 have s7 : zb 3000 2993 s 8 = cond (u == ([83, 84, 79, 82, 69] : List UInt8)) (some (.inl 8)) (zb 3000 2992 s 9) := by
  rw [show zb 3000 2993 s 8 = (Option.bind (zm 3000 s) fun y => cond (([83, 84, 79, 82, 69] : List UInt8) == y.1) (some (.inl 8)) (zb 3000 2992 s 9)) from by kernel_rfl, hU, zkP u]; rfl
 rw [s0, s1, s2, s3, s4, s5, s6, s7]
 rw [show zb 3000 2992 s 9 = some (.inr ()) from by kernel_rfl]
theorem zsc (s u : List UInt8) (hU : zm 3000 s = some (u, ())) : zf 3000 3000 s 1 = (cond (u == ([70, 76, 65, 71, 83] : List UInt8)) (some (.inl 1)) (cond (u == ([85, 73, 68] : List UInt8)) (some (.inl 2)) (cond (u == ([82, 70, 67, 56, 50, 50, 46, 83, 73, 90, 69] : List UInt8)) (some (.inl 4)) (cond (u == ([66, 79, 68, 89, 46, 80, 69, 69, 75, 91, 93] : List UInt8)) (some (.inl 8)) (cond (u == ([66, 79, 68, 89, 91, 93] : List UInt8)) (some (.inl 16)) (some (.inr ()))))))) := by
 have s0 : zf 3000 3000 s 1 = cond (u == ([70, 76, 65, 71, 83] : List UInt8)) (some (.inl 1)) (zf 3000 2999 s 2) := by
  rw [show zf 3000 3000 s 1 = (Option.bind (zm 3000 s) fun y => cond (([70, 76, 65, 71, 83] : List UInt8) == y.1) (some (.inl 1)) (zf 3000 2999 s 2)) from by kernel_rfl, hU, zkP u]; rfl
 have s1 : zf 3000 2999 s 2 = cond (u == ([85, 73, 68] : List UInt8)) (some (.inl 2)) (zf 3000 2998 s 4) := by
  rw [show zf 3000 2999 s 2 = (Option.bind (zm 3000 s) fun y => cond (([85, 73, 68] : List UInt8) == y.1) (some (.inl 2)) (zf 3000 2998 s 4)) from by kernel_rfl, hU, zkP u]; rfl
 have s2 : zf 3000 2998 s 4 = cond (u == ([82, 70, 67, 56, 50, 50, 46, 83, 73, 90, 69] : List UInt8)) (some (.inl 4)) (zf 3000 2997 s 8) := by
  rw [show zf 3000 2998 s 4 = (Option.bind (zm 3000 s) fun y => cond (([82, 70, 67, 56, 50, 50, 46, 83, 73, 90, 69] : List UInt8) == y.1) (some (.inl 4)) (zf 3000 2997 s 8)) from by kernel_rfl, hU, zkP u]; rfl
 have s3 : zf 3000 2997 s 8 = cond (u == ([66, 79, 68, 89, 46, 80, 69, 69, 75, 91, 93] : List UInt8)) (some (.inl 8)) (zf 3000 2996 s 16) := by
  rw [show zf 3000 2997 s 8 = (Option.bind (zm 3000 s) fun y => cond (([66, 79, 68, 89, 46, 80, 69, 69, 75, 91, 93] : List UInt8) == y.1) (some (.inl 8)) (zf 3000 2996 s 16)) from by kernel_rfl, hU, zkP u]; rfl
 have s4 : zf 3000 2996 s 16 = cond (u == ([66, 79, 68, 89, 91, 93] : List UInt8)) (some (.inl 16)) (zf 3000 2995 s 32) := by
  rw [show zf 3000 2996 s 16 = (Option.bind (zm 3000 s) fun y => cond (([66, 79, 68, 89, 91, 93] : List UInt8) == y.1) (some (.inl 16)) (zf 3000 2995 s 32)) from by kernel_rfl, hU, zkP u]; rfl
 rw [s0, s1, s2, s3, s4]
 rw [show zf 3000 2995 s 32 = some (.inr ()) from by kernel_rfl]
theorem zfs (s : List UInt8) (hs : s.length <= 2000) : ∃ n : Int, jO 3000 s = some (n, decide (0 < n), ()) /\ j0 3000 s = some (n, ()) /\ 0 <= n /\ n <= 8 := by
 unfold jO j0
 rw [zca s hs]
 simp only [Option.bind_some]
 unfold zp
 rw [show zi 3000 3000 [([78, 79, 79, 80] : List UInt8), ([76, 79, 71, 79, 85, 84] : List UInt8), ([67, 76, 79, 83, 69] : List UInt8), ([69, 88, 80, 85, 78, 71, 69] : List UInt8), ([83, 69, 76, 69, 67, 84] : List UInt8), ([65, 80, 80, 69, 78, 68] : List UInt8), ([70, 69, 84, 67, 72] : List UInt8), ([83, 84, 79, 82, 69] : List UInt8)] (s.map up) (((List.length ([([78, 79, 79, 80] : List UInt8), ([76, 79, 71, 79, 85, 84] : List UInt8), ([67, 76, 79, 83, 69] : List UInt8), ([69, 88, 80, 85, 78, 71, 69] : List UInt8), ([83, 69, 76, 69, 67, 84] : List UInt8), ([65, 80, 80, 69, 78, 68] : List UInt8), ([70, 69, 84, 67, 72] : List UInt8), ([83, 84, 79, 82, 69] : List UInt8)] : List (List UInt8))) : Nat) : Int) 0 = _ from zoN (s.map up), zrR s _ (za0 s hs)]
 generalize (s.map up == ([78, 79, 79, 80] : List UInt8)) = b0
 generalize (s.map up == ([76, 79, 71, 79, 85, 84] : List UInt8)) = b1
 generalize (s.map up == ([67, 76, 79, 83, 69] : List UInt8)) = b2
 generalize (s.map up == ([69, 88, 80, 85, 78, 71, 69] : List UInt8)) = b3
 generalize (s.map up == ([83, 69, 76, 69, 67, 84] : List UInt8)) = b4
 generalize (s.map up == ([65, 80, 80, 69, 78, 68] : List UInt8)) = b5
 generalize (s.map up == ([70, 69, 84, 67, 72] : List UInt8)) = b6
 generalize (s.map up == ([83, 84, 79, 82, 69] : List UInt8)) = b7
 cases b0 with
 | true => exact ⟨1, rfl, rfl, by omega⟩
 | false =>
  cases b1 with
  | true => exact ⟨2, rfl, rfl, by omega⟩
  | false =>
  cases b2 with
  | true => exact ⟨3, rfl, rfl, by omega⟩
  | false =>
   cases b3 with
   | true => exact ⟨4, rfl, rfl, by omega⟩
   | false =>
   cases b4 with
   | true => exact ⟨5, rfl, rfl, by omega⟩
   | false =>
    cases b5 with
    | true => exact ⟨6, rfl, rfl, by omega⟩
    | false =>
    cases b6 with
    | true => exact ⟨7, rfl, rfl, by omega⟩
    | false =>
     cases b7 with
     | true => exact ⟨8, rfl, rfl, by omega⟩
     | false =>
     exact ⟨0, rfl, rfl, by omega⟩
theorem ze9 (s : List UInt8) (hs : s.length <= 2000) : ∃ n : Int, jq 3000 s = some (n, decide (0 < n), ()) /\ j2 3000 s = some (n, ()) /\ 0 <= n /\ n <= 16 := by
 unfold jq j2
 rw [zca s hs]
 simp only [Option.bind_some]
 unfold zp
 rw [show zi 3000 3000 [([70, 76, 65, 71, 83] : List UInt8), ([85, 73, 68] : List UInt8), ([82, 70, 67, 56, 50, 50, 46, 83, 73, 90, 69] : List UInt8), ([66, 79, 68, 89, 46, 80, 69, 69, 75, 91, 93] : List UInt8), ([66, 79, 68, 89, 91, 93] : List UInt8)] (s.map up) (((List.length ([([70, 76, 65, 71, 83] : List UInt8), ([85, 73, 68] : List UInt8), ([82, 70, 67, 56, 50, 50, 46, 83, 73, 90, 69] : List UInt8), ([66, 79, 68, 89, 46, 80, 69, 69, 75, 91, 93] : List UInt8), ([66, 79, 68, 89, 91, 93] : List UInt8)] : List (List UInt8))) : Nat) : Int) 0 = _ from zow (s.map up), zsc s _ (za0 s hs)]
 generalize (s.map up == ([70, 76, 65, 71, 83] : List UInt8)) = b0
 generalize (s.map up == ([85, 73, 68] : List UInt8)) = b1
 generalize (s.map up == ([82, 70, 67, 56, 50, 50, 46, 83, 73, 90, 69] : List UInt8)) = b2
 generalize (s.map up == ([66, 79, 68, 89, 46, 80, 69, 69, 75, 91, 93] : List UInt8)) = b3
 generalize (s.map up == ([66, 79, 68, 89, 91, 93] : List UInt8)) = b4
 cases b0 with
 | true => exact ⟨1, rfl, rfl, by omega⟩
 | false =>
  cases b1 with
  | true => exact ⟨2, rfl, rfl, by omega⟩
  | false =>
  cases b2 with
  | true => exact ⟨4, rfl, rfl, by omega⟩
  | false =>
   cases b3 with
   | true => exact ⟨8, rfl, rfl, by omega⟩
   | false =>
   cases b4 with
   | true => exact ⟨16, rfl, rfl, by omega⟩
   | false =>
    exact ⟨0, rfl, rfl, by omega⟩
def qx (c : UInt8) : List UInt8 -> List (List UInt8)
 | [] => [[]]
 | x :: l => if x == c then [] :: qx c l else match qx c l with
  | h :: t => (x :: h) :: t
  | [] => [[x]]
theorem xy {c : UInt8} : ∀ {l : List UInt8}, posOf c l = none -> qx c l = [l]
 | [], h => rfl
 | x :: l, h => by
  unfold posOf at h
  unfold qx
  cases hx : x == c with
  | true => simp only [hx, if_true] at h; cases h
  | false =>
   simp only [hx, Bool.false_eq_true, if_false] at h |-
   split at h
   ·cases h
   ·rename_i hn; rw [xy hn]
theorem za2 {c : UInt8} : ∀ {l : List UInt8} {i : Nat}, posOf c l = some i -> qx c l = l.take i :: qx c (l.drop (i + 1))
 | [], i, h => by cases h
 | x :: l, i, h => by
  unfold posOf at h
  conv => lhs; unfold qx
  cases hx : x == c with
  | true => simp only [hx, if_true] at h |-; cases h; rfl
  | false =>
   simp only [hx, Bool.false_eq_true, if_false] at h |-
   split at h
   ·rename_i j hj
    cases h
    rw [za2 hj]; rfl
   ·cases h
theorem index_one (c : UInt8) : ∀ l : List UInt8, Go.Lib.index l [c] = match posOf c l with
  | some i => ((i : Nat) : Int)
  | none => -1
 | [] => rfl
 | b :: l => by
  unfold Go.Lib.index posOf
  have hp : ([c] : List UInt8).isPrefixOf (b :: l) = (b == c) := by
   rw [List.isPrefixOf_cons_cons, List.isPrefixOf_nil_left, Bool.and_true]
   rw [Bool.eq_iff_iff, beq_iff_eq, beq_iff_eq]; exact eq_comm
  rw [hp, index_one c l]
  cases b == c with
  | true => rfl
  | false =>
   simp only [Bool.false_eq_true, if_false]
   cases posOf c l with
   | none => rfl
   | some i =>
    simp only
    rw [if_neg (by rw [beq_iff_eq]; omega)]; rfl
theorem zib (c : UInt8) : ∀ (k : Nat) (s : List UInt8), s.length <= k -> Go.Lib.splitK [c] 0 (Go.Lib.count s [c]) s = qx c s
 | 0, s, h => by
  have : s = [] := List.eq_nil_of_length_eq_zero (by omega)
  subst this
  rw [Go.Lib.count_miss (by rfl)]; rfl
 | k + 1, s, h => by
  cases hp : posOf c s with
  | none =>
   rw [Go.Lib.count_miss (by rw [index_one, hp]), xy hp]; rfl
  | some i =>
   have hi := qT hp
   have hix : Go.Lib.index s [c] = ((i : Nat) : Int) := by rw [index_one, hp]
   rw [Go.Lib.count_hit (by simp) hix, Nat.add_comm 1]
   unfold Go.Lib.splitK
   rw [if_neg (by rw [hix, beq_iff_eq]; omega), hix, Int.toNat_natCast, za2 hp]
   rw [Nat.add_zero]
   congr 1
   exact zib c k (s.drop (i + 1)) (by rw [List.length_drop]; omega)
theorem zfc (c : UInt8) (s : List UInt8) : qV s [c] = qx c s := by
 unfold qV
 rw [Go.Lib.splitB_data]
 exact zib c s.length s (Nat.le_refl _)
theorem jI (c : UInt8) : ∀ l : List UInt8, 0 < (qx c l).length /\ (qx c l).length <= l.length + 1 /\ ∀ p ∈ qx c l, p.length <= l.length
 | [] => ⟨by simp [qx], by simp [qx], by simp [qx]⟩
 | x :: l => by
  obtain ⟨h1, h2, h3⟩ := jI c l
  unfold qx
  split
  ·refine ⟨by simp, by simp; omega, fun p hp => ?_⟩
   simp only [List.mem_cons] at hp
   rcases hp with rfl | hp
   ·simp
   ·have := h3 p hp; simp; omega
  ·split
   ·rename_i h t he
    rw [he] at h1 h2 h3
    refine ⟨by simp, by simp at h2 |-; omega, fun p hp => ?_⟩
    simp only [List.mem_cons] at hp
    rcases hp with rfl | hp
    ·have := h3 h (by simp); simp; omega
    ·have := h3 p (by simp [hp]); simp; omega
   ·rename_i he
    rw [he] at h1; simp at h1
def glue (p : List UInt8) : List (List UInt8) -> List (List UInt8)
 | h :: t => (p ++ h) :: t
 | [] => [p]
theorem zlb {l : List UInt8} {a b : Nat} (h : a <= b) (hb : b < l.length) : slice l a (b + 1) = slice l a b ++ [l[b]] := by
 unfold slice
 rw [show b + 1 - a = (b - a) + 1 by omega, List.take_succ_eq_append_getElem (by rw [List.length_drop]; omega)]
 congr 2
 rw [List.getElem_drop]
 congr 1; omega
theorem zjn (N : Nat) (s : List UInt8) (hs : s.length <= 2000) (c : UInt8) : ∀ (m from_ i : Nat) (out : List (List UInt8)), from_ <= i -> i <= s.length -> out.length <= i -> s.length + 1 < m + i ->
  zR N m s c ((from_ : Nat) : Int) ((i : Nat) : Int) out = some (out ++ glue (slice s from_ i) (qx c (s.drop i)))
 | 0, f, i, out, h1, h2, h3, h4 => by omega
 | m + 1, f, i, out, h1, h2, h3, h4 => by
  unfold zR jT
  have c0 : decide (((i : Nat) : Int) <= ((s.length : Nat) : Int)) = true := by simp; omega
  have w1 : IntKind.wrap .i64 (((i : Nat) : Int) + 1) = ((i + 1 : Nat) : Int) := by rw [wri (by omega) (by omega)]; omega
  have hb : js ((f : Nat) : Int) ((i : Nat) : Int) s.length = true := qY h1 h2
  simp only [c0, cond_true, w1, hb, Int.toNat_natCast, zbR (show out.length + 1 <= 200000 by omega)]
  by_cases hi : i < s.length
  ·have e : (((i : Nat) : Int) == ((s.length : Nat) : Int)) = false := by simp; omega
   simp only [e, cond_false, zX hi, cond_true, jH (u := .u8) hi, drop_one hi]
   unfold qx
   cases hc : s[i] == c with
   | true =>
    simp only [cond_true, if_true]
    rw [zjn N s hs c m (i + 1) (i + 1) (out ++ [slice s f i]) (Nat.le_refl _) (by omega) (by simp; omega) (by omega)]
    have : slice s (i + 1) (i + 1) = [] := by unfold slice; simp
    rw [this]
    have hne := (jI c (s.drop (i + 1))).1
    cases hsp : qx c (s.drop (i + 1)) with
    | nil => rw [hsp] at hne; simp at hne
    | cons h t => simp [glue]
   | false =>
    simp only [cond_false, Bool.false_eq_true, if_false]
    rw [zjn N s hs c m f (i + 1) out (by omega) (by omega) (by omega) (by omega), zlb h1 hi]
    have hne := (jI c (s.drop (i + 1))).1
    cases hsp : qx c (s.drop (i + 1)) with
    | nil => rw [hsp] at hne; simp at hne
    | cons h t => simp [glue]
  ·have hie : i = s.length := by omega
   subst hie
   simp only [show (((s.length : Nat) : Int) == ((s.length : Nat) : Int)) = true from beq_self_eq_true _, cond_true]
   rw [List.drop_eq_nil_of_le (Nat.le_refl _)]
   have : ∀ (m : Nat) (o : List (List UInt8)), 0 < m -> zR N m s c ((s.length + 1 : Nat) : Int) ((s.length + 1 : Nat) : Int) o = some o := by
    intro m o hm
    cases m with
    | zero => omega
    | succ m =>
     unfold zR jT
     have c1 : decide (((s.length + 1 : Nat) : Int) <= ((s.length : Nat) : Int)) = false := by simp; omega
     simp only [c1, cond_false]
   rw [this m _ (by omega)]
   simp [qx, glue]
theorem zo5 (s : List UInt8) (hs : s.length <= 2000) (c : UInt8) : wy 3000 s c = some (qx c s, ()) := by
 unfold wy
 have := zjn 3000 s hs c 3000 0 0 [] (by omega) (by omega) (by simp) (by omega)
 rw [show ((0 : Nat) : Int) = (0 : Int) from rfl] at this
 rw [this]
 have h0 : slice s 0 0 = [] := by unfold slice; simp
 rw [h0, List.drop_zero]
 have hne := (jI c s).1
 cases hsp : qx c s with
 | nil => rw [hsp] at hne; simp at hne
 | cons h t => rfl
def zgy (s : List UInt8) : Option Nat := if s = [42] then some 0 else match zep s with
 | some v => if v = 0 then none else some v
 | none => none
def zjN (s : List UInt8) (o : Option (Int × Bool × Unit)) : Prop := match zgy s with
 | some v => o = some (((v : Nat) : Int), true, ())
 | none => ∃ x, o = some (x, false, ())
theorem zaC (s : List UInt8) (hs : s.length <= 2000) : zjN s (zU 3000 s) := by
 unfold zjN zgy zU
 by_cases h : s = [42]
 ·subst h; rfl
 ·have e : (s == ([42] : List UInt8)) = false := by simpa using h
  simp only [e, cond_false, if_neg h]
  rw [zks 3000 (by omega) s (by omega)]
  unfold zoZ
  simp only [Option.bind_some]
  cases zep s with
  | none => exact ⟨_, rfl⟩
  | some v =>
   simp only [cond_true]
   by_cases hv : v = 0
   ·subst hv; exact ⟨_, rfl⟩
   ·rw [if_neg hv]
    have : (((v : Nat) : Int) != 0) = true := by simp; omega
    simp only [this]
theorem ze3 (s : List UInt8) : zjN s (jP 3000 s) := by
 unfold zjN zgy jP
 by_cases h : s = [42]
 ·subst h; rfl
 ·have e : (s == ([42] : List UInt8)) = false := by simpa using h
  simp only [e, cond_false, if_neg h]
  rw [zmE 3000 (by omega) s]
  unfold zoZ
  simp only [Option.bind_some]
  cases zep s with
  | none => exact ⟨_, rfl⟩
  | some v =>
   simp only [cond_true]
   by_cases hv : v = 0
   ·subst hv; exact ⟨_, rfl⟩
   ·rw [if_neg hv]
    have : decide ((0 : Int) < ((v : Nat) : Int)) = true := by simp; omega
    simp only [this]
def xV (s : List UInt8) : Option (Int × Int) := match posOf 58 s with
 | none => match zgy s with
  | some v => some (((v : Nat) : Int), ((v : Nat) : Int))
  | none => none
 | some i => match zgy (s.take i), zgy (s.drop (i + 1)) with
  | some a, some b => some (((a : Nat) : Int), ((b : Nat) : Int))
  | _, _ => none
def jr : List (List UInt8) -> Option (List (Int × Int))
 | [] => some []
 | s :: l => match xV s, jr l with
  | some r, some t => some (r :: t)
  | _, _ => none
def kp (s : List UInt8) : Option ((List (Int × Int)) × Bool × Unit) := some (match jr (qx 44 s) with
 | some l => (l, true, ())
 | none => ([], false, ()))
theorem zr9 (s : List UInt8) : (([58] : List UInt8) == s) = true ↔ s = [58] := by rw [beq_iff_eq]; exact eq_comm
theorem zue (s : List UInt8) : qg 3000 s 58 = some (jh 58 s 0, ()) := rfl
theorem zaA {a b : List UInt8} (oa ob : Option (Int × Bool × Unit)) (ha : zjN a oa) (hb : zjN b ob) (R : Type) (f : Int × Int -> Option R) (g : Option R) :
  (Option.bind oa fun y1 => Option.bind ob fun y2 => cond (!y1.2.1) g (cond (!y2.2.1) g (f (y1.1, y2.1)))) = match zgy a, zgy b with
   | some x, some y => f (((x : Nat) : Int), ((y : Nat) : Int))
   | _, _ => g := by
 unfold zjN at ha hb
 cases h1 : zgy a with
 | none =>
  rw [h1] at ha
  obtain ⟨x, rfl⟩ := ha
  cases h2 : zgy b with
  | none => rw [h2] at hb; obtain ⟨y, rfl⟩ := hb; rfl
  | some v => rw [h2] at hb; subst hb; rfl
 | some u =>
  rw [h1] at ha
  subst ha
  cases h2 : zgy b with
  | none => rw [h2] at hb; obtain ⟨y, rfl⟩ := hb; rfl
  | some v => rw [h2] at hb; subst hb; rfl
theorem zrX (parts : List (List UInt8)) (hp : parts.length <= 2001) (hq : ∀ p ∈ parts, p.length <= 2000) : ∀ (m i : Nat) (out : List (Int × Int)), i <= parts.length -> out.length <= i -> parts.length < m + i ->
  match jr (parts.drop i) with
  | some l => zC 3000 m ((parts.length : Nat) : Int) ((i : Nat) : Int) parts out = some (Sum.inr (parts, out ++ l))
  | none => ∃ o, zC 3000 m ((parts.length : Nat) : Int) ((i : Nat) : Int) parts out = some (Sum.inl (parts, o))
 | 0, i, out, h, ho, h' => by omega
 | m + 1, i, out, h, ho, h' => by
  unfold zC kI
  by_cases hi : i < parts.length
  ·have hs : parts[i].length <= 2000 := hq _ (List.getElem_mem hi)
   have w1 : IntKind.wrap .i64 (((i : Nat) : Int) + 1) = ((i + 1 : Nat) : Int) := by rw [wri (by omega) (by omega)]; omega
   simp only [zhN hi, cond_true, zX hi, Int.toNat_natCast, jH (u := .str) hi, w1, zbR (show out.length + 1 <= 200000 by omega), zue, zfI, Option.bind_some]
   rw [drop_one hi]
   unfold jr
   generalize parts[i] = s at hs
   have ihs := fun r : Int × Int => zrX parts hp hq m (i + 1) (out ++ [r]) (by omega) (by simp; omega) (by omega)
   have fin : ∀ (o : Option (List (List UInt8) × List (Int × Int) ⊕ List (List UInt8) × List (Int × Int))), (o = match xV s with
     | some r => zC 3000 m ((parts.length : Nat) : Int) ((i + 1 : Nat) : Int) parts (out ++ [r])
     | none => some (Sum.inl (parts, out))) -> match (match xV s, jr (parts.drop (i + 1)) with
      | some r, some t => some (r :: t)
      | _, _ => none) with
     | some l => o = some (Sum.inr (parts, out ++ l))
     | none => ∃ o', o = some (Sum.inl (parts, o')) := by
    intro o ho
    subst ho
    cases hr : xV s with
    | none => exact ⟨_, rfl⟩
    | some r =>
     have ih := ihs r
     cases ht : jr (parts.drop (i + 1)) with
     | none => rw [ht] at ih; exact ih
     | some t => rw [ht] at ih; simp only at ih |-; rw [ih, List.append_assoc]; rfl
   by_cases h58 : s = [58]
   ·subst h58
    simp only [show (([58] : List UInt8) == [58]) = true from rfl, cond_true]
    have hb1 : js (0 : Int) (0 : Int) (List.length ([58] : List UInt8)) = true := rfl
    have hb2 : js (1 : Int) (((List.length ([58] : List UInt8)) : Nat) : Int) (List.length ([58] : List UInt8)) = true := rfl
    simp only [hb1, hb2, cond_true]
    refine fin _ ?_
    refine (zaA _ _ (zaC (slice [58] 0 0) (by simp [slice])) (zaC (slice [58] 1 ([58] : List UInt8).length) (by simp [slice])) _ (fun r => zC 3000 m ((parts.length : Nat) : Int) ((i + 1 : Nat) : Int) parts (out ++ [r])) (some (Sum.inl (parts, out)))).trans ?_
    rfl
   ·have e58 : (([58] : List UInt8) == s) = false := by
     cases e : ([58] : List UInt8) == s with
     | false => rfl
     | true => exact absurd ((zr9 s).1 e) h58
    simp only [e58, cond_false]
    cases hpos : posOf 58 s with
    | none =>
     simp only [show decide ((0 : Int) <= -1) = false from rfl, cond_false]
     refine fin _ ?_
     refine (zaA _ _ (zaC s hs) (zaC s hs) _ (fun r => zC 3000 m ((parts.length : Nat) : Int) ((i + 1 : Nat) : Int) parts (out ++ [r])) (some (Sum.inl (parts, out)))).trans ?_
     unfold xV
     rw [hpos]
     cases zgy s <;> rfl
    | some k =>
     obtain ⟨q1, q2, q3⟩ := qT hpos
     simp only [Nat.zero_add]
     have d0 : decide ((0 : Int) <= ((k : Nat) : Int)) = true := by simp
     have w2 : IntKind.wrap .i64 (((k : Nat) : Int) + 1) = ((k + 1 : Nat) : Int) := by rw [wri (by omega) (by omega)]; omega
     have hb1 : js (0 : Int) ((k : Nat) : Int) s.length = true := by
      have := qY (a := 0) (b := k) (n := s.length) (by omega) (by omega)
      rwa [show ((0 : Nat) : Int) = (0 : Int) from rfl] at this
     have hb2 : js ((k + 1 : Nat) : Int) ((s.length : Nat) : Int) s.length = true := qY (by omega) (by omega)
     simp only [d0, cond_true, w2, hb1, hb2, Int.toNat_natCast, j7, xg]
     refine fin _ ?_
     refine (zaA _ _ (zaC (s.take k) (by rw [List.length_take]; omega)) (zaC (s.drop (k + 1)) (by rw [List.length_drop]; omega)) _ (fun r => zC 3000 m ((parts.length : Nat) : Int) ((i + 1 : Nat) : Int) parts (out ++ [r])) (some (Sum.inl (parts, out)))).trans ?_
     unfold xV
     rw [hpos]
     simp only
     cases zgy (s.take k) with
     | none => rfl
     | some a => cases zgy (s.drop (k + 1)) <;> rfl
  ·simp only [zhM hi, cond_false]
   rw [List.drop_eq_nil_of_le (by omega)]
   simp only [jr, List.append_nil]
theorem znY (s : List UInt8) (hs : s.length <= 2000) : jo 3000 s = kp s := by
 unfold jo kp
 have hb : Nat.ble s.length zgN = true := by rw [Nat.ble_eq]; unfold zgN; omega
 obtain ⟨l1, l2, l3⟩ := jI 44 s
 have := zrX (qx 44 s) (by omega) (fun p hp => by have := l3 p hp; omega) 3000 0 [] (by omega) (by simp) (by omega)
 rw [show ((0 : Nat) : Int) = (0 : Int) from rfl, List.drop_zero] at this
 simp only [hb, cond_true, zfc]
 cases hr : jr (qx 44 s) with
 | some l => rw [hr] at this; simp only at this; rw [this]; rfl
 | none => rw [hr] at this; obtain ⟨o, h⟩ := this; rw [h]; rfl
theorem zq6 (parts : List (List UInt8)) (hp : parts.length <= 2001) (hq : ∀ p ∈ parts, p.length <= 2000) : ∀ (m i : Nat) (out : List (Int × Int)), i <= parts.length -> out.length <= i -> parts.length < m + i ->
  match jr (parts.drop i) with
  | some l => zF 3000 m parts ((i : Nat) : Int) out = some (Sum.inr (out ++ l))
  | none => ∃ o, zF 3000 m parts ((i : Nat) : Int) out = some (Sum.inl o)
 | 0, i, out, h, ho, h' => by omega
 | m + 1, i, out, h, ho, h' => by
  unfold zF xE
  by_cases hi : i < parts.length
  ·have hs : parts[i].length <= 2000 := hq _ (List.getElem_mem hi)
   have w1 : IntKind.wrap .i64 (((i : Nat) : Int) + 1) = ((i + 1 : Nat) : Int) := by rw [wri (by omega) (by omega)]; omega
   simp only [zhN hi, cond_true, zX hi, Int.toNat_natCast, jH (u := .str) hi, w1, zbR (show out.length + 1 <= 200000 by omega)]
   rw [drop_one hi]
   unfold jr
   generalize parts[i] = s at hs
   rw [zo5 s hs 58]
   simp only [Option.bind_some]
   have ihs := fun r : Int × Int => zq6 parts hp hq m (i + 1) (out ++ [r]) (by omega) (by simp; omega) (by omega)
   have fin : ∀ (o : Option (List (Int × Int) ⊕ List (Int × Int))), (o = match xV s with
     | some r => zF 3000 m parts ((i + 1 : Nat) : Int) (out ++ [r])
     | none => some (Sum.inl out)) -> match (match xV s, jr (parts.drop (i + 1)) with
      | some r, some t => some (r :: t)
      | _, _ => none) with
     | some l => o = some (Sum.inr (out ++ l))
     | none => ∃ o', o = some (Sum.inl o') := by
    intro o ho
    subst ho
    cases hr : xV s with
    | none => exact ⟨_, rfl⟩
    | some r =>
     have ih := ihs r
     cases ht : jr (parts.drop (i + 1)) with
     | none => rw [ht] at ih; exact ih
     | some t => rw [ht] at ih; simp only at ih |-; rw [ih, List.append_assoc]; rfl
   cases hpos : posOf 58 s with
   | none =>
    rw [xy hpos]
    have c1 : decide ((2 : Int) < (((List.length [s]) : Nat) : Int)) = false := rfl
    have c2 : inb (0 : Int) (List.length [s]) = true := rfl
    have c3 : IntKind.wrap .i64 ((((List.length [s]) : Nat) : Int) - (1 : Int)) = 0 := rfl
    simp only [c1, cond_false, c2, cond_true, c3]
    refine fin _ ?_
    refine (zaA _ _ (ze3 s) (ze3 s) _ (fun r => zF 3000 m parts ((i + 1 : Nat) : Int) (out ++ [r])) (some (Sum.inl out))).trans ?_
    unfold xV
    rw [hpos]
    cases zgy s <;> rfl
   | some k =>
    obtain ⟨q1, q2, q3⟩ := qT hpos
    rw [za2 hpos]
    cases hpos2 : posOf 58 (s.drop (k + 1)) with
    | none =>
     rw [xy hpos2]
     have c1 : decide ((2 : Int) < (((List.length [s.take k, s.drop (k + 1)]) : Nat) : Int)) = false := rfl
     have c2 : inb (0 : Int) (List.length [s.take k, s.drop (k + 1)]) = true := rfl
     have c3 : IntKind.wrap .i64 ((((List.length [s.take k, s.drop (k + 1)]) : Nat) : Int) - (1 : Int)) = 1 := rfl
     have c4 : inb (1 : Int) (List.length [s.take k, s.drop (k + 1)]) = true := rfl
     simp only [c1, cond_false, c2, cond_true, c3, c4]
     refine fin _ ?_
     refine (zaA _ _ (ze3 (s.take k)) (ze3 (s.drop (k + 1))) _ (fun r => zF 3000 m parts ((i + 1 : Nat) : Int) (out ++ [r])) (some (Sum.inl out))).trans ?_
     unfold xV
     rw [hpos]
     simp only
     cases zgy (s.take k) with
     | none => rfl
     | some a => cases zgy (s.drop (k + 1)) <;> rfl
    | some k2 =>
     rw [za2 hpos2]
     have hlen := (jI 58 ((s.drop (k + 1)).drop (k2 + 1))).1
     have c1 : decide ((2 : Int) < (((List.length (s.take k :: (s.drop (k + 1)).take k2 :: qx 58 ((s.drop (k + 1)).drop (k2 + 1)))) : Nat) : Int)) = true := by
      simp only [List.length_cons, decide_eq_true_eq]; omega
     simp only [c1, cond_true]
     refine fin _ ?_
     have hbad : xV s = none := by
      unfold xV
      rw [hpos]
      simp only
      have : zgy (s.drop (k + 1)) = none := by
       unfold zgy
       obtain ⟨p1, p2, p3⟩ := qT hpos2
       have hne : s.drop (k + 1) ≠ [42] := by
        intro e
        rw [e] at p2 p1
        have : k2 = 0 := by simp at p1; omega
        subst this
        simp at p2
       rw [if_neg hne]
       have hv : zi2 0 (s.drop (k + 1)) = none := by
        have key : ∀ (l : List UInt8) (acc j : Nat), l[j]? = some 58 -> zi2 acc l = none := by
         intro l
         induction l with
         | nil => intro acc j hj; simp at hj
         | cons c r ih =>
          intro acc j hj
          unfold zi2
          cases j with
          | zero =>
           simp only [List.getElem?_cons_zero, Option.some.injEq] at hj
           subst hj
           rfl
          | succ j =>
           split
           ·exact ih _ j (by simpa using hj)
           ·rfl
        exact key _ 0 k2 p2
       unfold zep
       rw [hv]
      rw [this]
      cases zgy (s.take k) <;> rfl
     rw [hbad]
  ·simp only [zhM hi, cond_false]
   rw [List.drop_eq_nil_of_le (by omega)]
   simp only [jr, List.append_nil]
theorem zqp (s : List UInt8) (hs : s.length <= 2000) : wm 3000 s = kp s := by
 unfold wm kp
 rw [zo5 s hs 44]
 obtain ⟨l1, l2, l3⟩ := jI 44 s
 have := zq6 (qx 44 s) (by omega) (fun p hp => by have := l3 p hp; omega) 3000 0 [] (by omega) (by simp) (by omega)
 rw [show ((0 : Nat) : Int) = (0 : Int) from rfl, List.drop_zero] at this
 simp only [Option.bind_some]
 cases hr : jr (qx 44 s) with
 | some l => rw [hr] at this; simp only at this; rw [this]; rfl
 | none => rw [hr] at this; obtain ⟨o, h⟩ := this; rw [h]; rfl
end Go.Proofs.Model
