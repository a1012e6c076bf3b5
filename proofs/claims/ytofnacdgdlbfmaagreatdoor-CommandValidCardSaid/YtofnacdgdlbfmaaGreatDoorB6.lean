/- The machines and the plain laws, part 6. -/
import Derived.Test.YtofnacdgdlbfmaaGreatDoorB5
import Derived.KernelRfl
set_option linter.unusedVariables false
set_option maxRecDepth 100000
set_option linter.unusedSimpArgs false
namespace Go.Proofs.Model
open Go Go.Gx Go.Mx Go.Sx
@[reducible] def uS1 : U := (.pair (.int .i64) (.pair .str (.int .i64)))
@[reducible] def uS2 : U := (.pair .str (.pair (.int .i64) (.pair .str (.pair (.sl (.pair (.int .u32) (.int .u32))) (.pair (.int .i64) (.pair (.int .i64) (.pair .bool (.pair .u8 (.sl .u8)))))))))
def zmr : List UInt8 := [0, 1, 2, 2, 3, 3, 3, 3, 4, 4, 4, 4, 4, 4, 4, 4, 5, 5, 5, 5, 5, 5, 5, 5, 5, 5, 5, 5, 5, 5, 5, 5, 6, 6, 6, 6, 6, 6, 6, 6, 6, 6, 6, 6, 6, 6, 6, 6, 6, 6, 6, 6, 6, 6, 6, 6, 6, 6, 6, 6, 6, 6, 6, 6, 7, 7, 7, 7, 7, 7, 7, 7, 7, 7, 7, 7, 7, 7, 7, 7, 7, 7, 7, 7, 7, 7, 7, 7, 7, 7, 7, 7, 7, 7, 7, 7, 7, 7, 7, 7, 7, 7, 7, 7, 7, 7, 7, 7, 7, 7, 7, 7, 7, 7, 7, 7, 7, 7, 7, 7, 7, 7, 7, 7, 7, 7, 7, 7, 8, 8, 8, 8, 8, 8, 8, 8, 8, 8, 8, 8, 8, 8, 8, 8, 8, 8, 8, 8, 8, 8, 8, 8, 8, 8, 8, 8, 8, 8, 8, 8, 8, 8, 8, 8, 8, 8, 8, 8, 8, 8, 8, 8, 8, 8, 8, 8, 8, 8, 8, 8, 8, 8, 8, 8, 8, 8, 8, 8, 8, 8, 8, 8, 8, 8, 8, 8, 8, 8, 8, 8, 8, 8, 8, 8, 8, 8, 8, 8, 8, 8, 8, 8, 8, 8, 8, 8, 8, 8, 8, 8, 8, 8, 8, 8, 8, 8, 8, 8, 8, 8, 8, 8, 8, 8, 8, 8, 8, 8, 8, 8, 8, 8, 8, 8, 8, 8, 8, 8, 8, 8, 8, 8, 8, 8, 8, 8]
def zaC : List UInt8 := [48, 48, 48, 49, 48, 50, 48, 51, 48, 52, 48, 53, 48, 54, 48, 55, 48, 56, 48, 57, 49, 48, 49, 49, 49, 50, 49, 51, 49, 52, 49, 53, 49, 54, 49, 55, 49, 56, 49, 57, 50, 48, 50, 49, 50, 50, 50, 51, 50, 52, 50, 53, 50, 54, 50, 55, 50, 56, 50, 57, 51, 48, 51, 49, 51, 50, 51, 51, 51, 52, 51, 53, 51, 54, 51, 55, 51, 56, 51, 57, 52, 48, 52, 49, 52, 50, 52, 51, 52, 52, 52, 53, 52, 54, 52, 55, 52, 56, 52, 57, 53, 48, 53, 49, 53, 50, 53, 51, 53, 52, 53, 53, 53, 54, 53, 55, 53, 56, 53, 57, 54, 48, 54, 49, 54, 50, 54, 51, 54, 52, 54, 53, 54, 54, 54, 55, 54, 56, 54, 57, 55, 48, 55, 49, 55, 50, 55, 51, 55, 52, 55, 53, 55, 54, 55, 55, 55, 56, 55, 57, 56, 48, 56, 49, 56, 50, 56, 51, 56, 52, 56, 53, 56, 54, 56, 55, 56, 56, 56, 57, 57, 48, 57, 49, 57, 50, 57, 51, 57, 52, 57, 53, 57, 54, 57, 55, 57, 56, 57, 57]
def qC (N : Nat) (p0 : (List UInt8)) (p1 : UInt8) : Option (Int × Unit) :=
 (some ((qR p1 p0 0), ()))
def xY (N : Nat) (p0 : UInt8) : Option (Bool × Unit) :=
 (cond (decide (32 < p0)) (cond (decide (p0 <= 126)) (cond (decide (((UInt8.toNat (zmH p0 6) : Nat) : Int) = 0)) (cond (decide (0 <= ((UInt8.toNat (p0 &&& 63) : Nat) : Int))) (some ((!((k9 .and .u64 (Int.fdiv 7851200217088 (2 ^ (min (Int.toNat ((UInt8.toNat (p0 &&& 63) : Nat) : Int)) (IntKind.bits .u64)))) 1) == 1)), ())) none) (cond (decide (((UInt8.toNat (zmH p0 6) : Nat) : Int) = 1)) (cond (decide (0 <= ((UInt8.toNat (p0 &&& 63) : Nat) : Int))) (some ((!((k9 .and .u64 (Int.fdiv 576460753108729856 (2 ^ (min (Int.toNat ((UInt8.toNat (p0 &&& 63) : Nat) : Int)) (IntKind.bits .u64)))) 1) == 1)), ())) none) (cond (decide (((UInt8.toNat (zmH p0 6) : Nat) : Int) = 2)) (cond (decide (0 <= ((UInt8.toNat (p0 &&& 63) : Nat) : Int))) (some ((!((k9 .and .u64 (Int.fdiv 0 (2 ^ (min (Int.toNat ((UInt8.toNat (p0 &&& 63) : Nat) : Int)) (IntKind.bits .u64)))) 1) == 1)), ())) none) (cond (decide (((UInt8.toNat (zmH p0 6) : Nat) : Int) = 3)) (cond (decide (0 <= ((UInt8.toNat (p0 &&& 63) : Nat) : Int))) (some ((!((k9 .and .u64 (Int.fdiv 0 (2 ^ (min (Int.toNat ((UInt8.toNat (p0 &&& 63) : Nat) : Int)) (IntKind.bits .u64)))) 1) == 1)), ())) none) none)))) (some (false, ()))) (some (false, ())))
def xJ (N : Nat) (p0 : UInt8) : Option (Bool × Unit) :=
 (cond (p0 == 93) (some (true, ())) (cond (p0 != 43) (Option.bind (xY N p0) fun y1 => (some (y1.1, ()))) (some (false, ()))))
def xr (N : Nat) {R : Type} (x8 : List UInt8) (x9 : Int) (x10 : Int) (rec_ : (List UInt8) -> (Int) -> (Int) -> Option R) (o0 : Unit -> Option R) (o1 : Unit -> Option R) : Option R :=
 (cond (decide (x10 < x9)) (cond (inb x10 (List.length x8)) (Option.bind (xJ N (nth .u8 x8 (Int.toNat x10))) fun y13 => (cond (!y13.1) (o0 ()) (rec_ x8 x9 (IntKind.wrap .i64 (x10 + 1))))) none) (o1 ()))
def qF (N : Nat) : Nat -> (List UInt8) -> (Int) -> (Int) -> Option ((Unit) ⊕ (Unit))
 | 0, _, _, _ => none
 | m + 1, x8, x9, x10 => xr N x8 x9 x10 (qF N m) (fun _ => some (Sum.inl ())) (fun _ => some (Sum.inr ()))
def zad (N : Nat) (p0 : (List UInt8)) : Option ((List UInt8) × Int × Bool × Unit) :=
 (Option.bind (qC N p0 32) fun y1 => (cond (decide (y1.1 < 1)) (some ([], 0, false, ())) (cond ((jV 0 y1.1 (List.length p0)) && true) (cond ((slice p0 0 (Int.toNat y1.1)) != []) (Option.bind (qF N N (slice p0 0 (Int.toNat y1.1)) (((List.length (slice p0 0 (Int.toNat y1.1))) : Nat) : Int) 0) fun o18 => (zm o18 (fun a19 => (some ([], 0, false, ()))) (fun b20 => (cond ((jV 0 y1.1 (List.length p0)) && true) (some ((slice p0 0 (Int.toNat y1.1)), (IntKind.wrap .i64 (y1.1 + 1)), true, ())) none)))) (some ([], 0, false, ()))) none)))
def j8 (N : Nat) (p0 : UInt8) : Option (Bool × Unit) :=
 (cond (p0 != 0) (cond (decide (p0 < 128)) (cond (p0 != 13) (some ((p0 != 10), ())) (some (false, ()))) (some (false, ()))) (some (false, ())))
def jE (N : Nat) {R : Type} (x18 : List UInt8) (x19 : Int) (x20 : List UInt8) (rec_ : (List UInt8) -> (Int) -> (List UInt8) -> Option R) (o0 : (Bool) -> (List UInt8) -> (Int) -> (List UInt8) -> Option R) : Option R :=
 (cond (decide (x19 < 0)) (o0 false x18 x19 x20) (cond (decide ((((List.length x18) : Nat) : Int) <= x19)) (o0 false x18 x19 x20) (cond (inb (IntKind.wrap .i64 ((IntKind.wrap .i64 (x19 + 1)) - 1)) (List.length x18)) (cond ((nth .u8 x18 (Int.toNat (IntKind.wrap .i64 ((IntKind.wrap .i64 (x19 + 1)) - 1)))) == 34) (o0 true x18 (IntKind.wrap .i64 (x19 + 1)) x20) (cond ((nth .u8 x18 (Int.toNat (IntKind.wrap .i64 ((IntKind.wrap .i64 (x19 + 1)) - 1)))) == 92) (cond (decide ((IntKind.wrap .i64 (x19 + 1)) < 0)) (o0 false x18 (IntKind.wrap .i64 (x19 + 1)) x20) (cond (decide ((((List.length x18) : Nat) : Int) <= (IntKind.wrap .i64 (x19 + 1)))) (o0 false x18 (IntKind.wrap .i64 (x19 + 1)) x20) (cond (inb (IntKind.wrap .i64 ((IntKind.wrap .i64 ((IntKind.wrap .i64 (x19 + 1)) + 1)) - 1)) (List.length x18)) (cond ((nth .u8 x18 (Int.toNat (IntKind.wrap .i64 ((IntKind.wrap .i64 ((IntKind.wrap .i64 (x19 + 1)) + 1)) - 1)))) != 34) (cond ((nth .u8 x18 (Int.toNat (IntKind.wrap .i64 ((IntKind.wrap .i64 ((IntKind.wrap .i64 (x19 + 1)) + 1)) - 1)))) != 92) (o0 false x18 (IntKind.wrap .i64 ((IntKind.wrap .i64 (x19 + 1)) + 1)) x20) (Option.bind (j8 N (nth .u8 x18 (Int.toNat (IntKind.wrap .i64 ((IntKind.wrap .i64 ((IntKind.wrap .i64 (x19 + 1)) + 1)) - 1))))) fun y25 => (cond (!y25.1) (o0 false x18 (IntKind.wrap .i64 ((IntKind.wrap .i64 (x19 + 1)) + 1)) x20) (cond (Nat.blt ((List.length x20) + 1) jH) (rec_ x18 (IntKind.wrap .i64 ((IntKind.wrap .i64 (x19 + 1)) + 1)) (x20 ++ ([(nth .u8 x18 (Int.toNat (IntKind.wrap .i64 ((IntKind.wrap .i64 ((IntKind.wrap .i64 (x19 + 1)) + 1)) - 1))))] : List UInt8))) none)))) (Option.bind (j8 N (nth .u8 x18 (Int.toNat (IntKind.wrap .i64 ((IntKind.wrap .i64 ((IntKind.wrap .i64 (x19 + 1)) + 1)) - 1))))) fun y26 => (cond (!y26.1) (o0 false x18 (IntKind.wrap .i64 ((IntKind.wrap .i64 (x19 + 1)) + 1)) x20) (cond (Nat.blt ((List.length x20) + 1) jH) (rec_ x18 (IntKind.wrap .i64 ((IntKind.wrap .i64 (x19 + 1)) + 1)) (x20 ++ ([(nth .u8 x18 (Int.toNat (IntKind.wrap .i64 ((IntKind.wrap .i64 ((IntKind.wrap .i64 (x19 + 1)) + 1)) - 1))))] : List UInt8))) none)))) none))) (Option.bind (j8 N (nth .u8 x18 (Int.toNat (IntKind.wrap .i64 ((IntKind.wrap .i64 (x19 + 1)) - 1))))) fun y27 => (cond (!y27.1) (o0 false x18 (IntKind.wrap .i64 (x19 + 1)) x20) (cond (Nat.blt ((List.length x20) + 1) jH) (rec_ x18 (IntKind.wrap .i64 (x19 + 1)) (x20 ++ ([(nth .u8 x18 (Int.toNat (IntKind.wrap .i64 ((IntKind.wrap .i64 (x19 + 1)) - 1))))] : List UInt8))) none))))) none)))
def zK (N : Nat) : Nat -> (List UInt8) -> (Int) -> (List UInt8) -> Option ((Bool) × (List UInt8) × (Int) × (List UInt8))
 | 0, _, _, _ => none
 | m + 1, x18, x19, x20 => jE N x18 x19 x20 (zK N m) (fun v0 v1 v2 v3 => some (v0, v1, v2, v3))
def qZ (N : Nat) (p0 : (List UInt8)) (p1 : Int) : Option ((List UInt8) × Int × Bool × Unit) :=
 (cond (decide (p1 < 0)) (some ([], 0, false, ())) (cond (decide ((((List.length p0) : Nat) : Int) <= p1)) (some ([], 0, false, ())) (cond (inb (IntKind.wrap .i64 ((IntKind.wrap .i64 (p1 + 1)) - 1)) (List.length p0)) (cond (!((nth .u8 p0 (Int.toNat (IntKind.wrap .i64 ((IntKind.wrap .i64 (p1 + 1)) - 1)))) == 34)) (some ([], 0, false, ())) (Option.bind (zK N N p0 (IntKind.wrap .i64 (p1 + 1)) []) fun o28 => (cond (!o28.1) (some ([], 0, false, ())) (some (o28.2.2.2, o28.2.2.1, true, ()))))) none)))
def jK (N : Nat) (p0 : Int) : Option ((List UInt8) × Unit) :=
 (cond (decide (p0 < 10)) (cond (jV p0 (IntKind.wrap .i64 (p0 + 1)) 36) (some ((slice [48, 49, 50, 51, 52, 53, 54, 55, 56, 57, 97, 98, 99, 100, 101, 102, 103, 104, 105, 106, 107, 108, 109, 110, 111, 112, 113, 114, 115, 116, 117, 118, 119, 120, 121, 122] (Int.toNat p0) (Int.toNat (IntKind.wrap .i64 (p0 + 1)))), ())) none) (cond (jV (IntKind.wrap .i64 (p0 * 2)) (IntKind.wrap .i64 ((IntKind.wrap .i64 (p0 * 2)) + 2)) 200) (some ((slice [48, 48, 48, 49, 48, 50, 48, 51, 48, 52, 48, 53, 48, 54, 48, 55, 48, 56, 48, 57, 49, 48, 49, 49, 49, 50, 49, 51, 49, 52, 49, 53, 49, 54, 49, 55, 49, 56, 49, 57, 50, 48, 50, 49, 50, 50, 50, 51, 50, 52, 50, 53, 50, 54, 50, 55, 50, 56, 50, 57, 51, 48, 51, 49, 51, 50, 51, 51, 51, 52, 51, 53, 51, 54, 51, 55, 51, 56, 51, 57, 52, 48, 52, 49, 52, 50, 52, 51, 52, 52, 52, 53, 52, 54, 52, 55, 52, 56, 52, 57, 53, 48, 53, 49, 53, 50, 53, 51, 53, 52, 53, 53, 53, 54, 53, 55, 53, 56, 53, 57, 54, 48, 54, 49, 54, 50, 54, 51, 54, 52, 54, 53, 54, 54, 54, 55, 54, 56, 54, 57, 55, 48, 55, 49, 55, 50, 55, 51, 55, 52, 55, 53, 55, 54, 55, 55, 55, 56, 55, 57, 56, 48, 56, 49, 56, 50, 56, 51, 56, 52, 56, 53, 56, 54, 56, 55, 56, 56, 56, 57, 57, 48, 57, 49, 57, 50, 57, 51, 57, 52, 57, 53, 57, 54, 57, 55, 57, 56, 57, 57] (Int.toNat (IntKind.wrap .i64 (p0 * 2))) (Int.toNat (IntKind.wrap .i64 ((IntKind.wrap .i64 (p0 * 2)) + 2)))), ())) none))
def jm (N : Nat) (p0 : Int) : Option (Int × Unit) :=
 (cond (decide (4294967296 <= p0)) (cond (decide (65536 <= (Int.fdiv p0 (2 ^ (min (Int.toNat 32) (IntKind.bits .u64)))))) (cond (decide (256 <= (Int.fdiv (Int.fdiv p0 (2 ^ (min (Int.toNat 32) (IntKind.bits .u64)))) (2 ^ (min (Int.toNat 16) (IntKind.bits .u64)))))) (cond (inb ((UInt8.toNat (zao (Int.fdiv (Int.fdiv (Int.fdiv p0 (2 ^ (min (Int.toNat 32) (IntKind.bits .u64)))) (2 ^ (min (Int.toNat 16) (IntKind.bits .u64)))) (2 ^ (min (Int.toNat 8) (IntKind.bits .u64))))) : Nat) : Int) 256) (some ((IntKind.wrap .i64 (56 + (IntKind.wrap .i64 ((UInt8.toNat (nth .u8 zmr (Int.toNat ((UInt8.toNat (zao (Int.fdiv (Int.fdiv (Int.fdiv p0 (2 ^ (min (Int.toNat 32) (IntKind.bits .u64)))) (2 ^ (min (Int.toNat 16) (IntKind.bits .u64)))) (2 ^ (min (Int.toNat 8) (IntKind.bits .u64))))) : Nat) : Int))) : Nat) : Int)))), ())) none) (cond (inb ((UInt8.toNat (zao (Int.fdiv (Int.fdiv p0 (2 ^ (min (Int.toNat 32) (IntKind.bits .u64)))) (2 ^ (min (Int.toNat 16) (IntKind.bits .u64))))) : Nat) : Int) 256) (some ((IntKind.wrap .i64 (48 + (IntKind.wrap .i64 ((UInt8.toNat (nth .u8 zmr (Int.toNat ((UInt8.toNat (zao (Int.fdiv (Int.fdiv p0 (2 ^ (min (Int.toNat 32) (IntKind.bits .u64)))) (2 ^ (min (Int.toNat 16) (IntKind.bits .u64))))) : Nat) : Int))) : Nat) : Int)))), ())) none)) (cond (decide (256 <= (Int.fdiv p0 (2 ^ (min (Int.toNat 32) (IntKind.bits .u64)))))) (cond (inb ((UInt8.toNat (zao (Int.fdiv (Int.fdiv p0 (2 ^ (min (Int.toNat 32) (IntKind.bits .u64)))) (2 ^ (min (Int.toNat 8) (IntKind.bits .u64))))) : Nat) : Int) 256) (some ((IntKind.wrap .i64 (40 + (IntKind.wrap .i64 ((UInt8.toNat (nth .u8 zmr (Int.toNat ((UInt8.toNat (zao (Int.fdiv (Int.fdiv p0 (2 ^ (min (Int.toNat 32) (IntKind.bits .u64)))) (2 ^ (min (Int.toNat 8) (IntKind.bits .u64))))) : Nat) : Int))) : Nat) : Int)))), ())) none) (cond (inb ((UInt8.toNat (zao (Int.fdiv p0 (2 ^ (min (Int.toNat 32) (IntKind.bits .u64))))) : Nat) : Int) 256) (some ((IntKind.wrap .i64 (32 + (IntKind.wrap .i64 ((UInt8.toNat (nth .u8 zmr (Int.toNat ((UInt8.toNat (zao (Int.fdiv p0 (2 ^ (min (Int.toNat 32) (IntKind.bits .u64))))) : Nat) : Int))) : Nat) : Int)))), ())) none))) (cond (decide (65536 <= p0)) (cond (decide (256 <= (Int.fdiv p0 (2 ^ (min (Int.toNat 16) (IntKind.bits .u64)))))) (cond (inb ((UInt8.toNat (zao (Int.fdiv (Int.fdiv p0 (2 ^ (min (Int.toNat 16) (IntKind.bits .u64)))) (2 ^ (min (Int.toNat 8) (IntKind.bits .u64))))) : Nat) : Int) 256) (some ((IntKind.wrap .i64 (24 + (IntKind.wrap .i64 ((UInt8.toNat (nth .u8 zmr (Int.toNat ((UInt8.toNat (zao (Int.fdiv (Int.fdiv p0 (2 ^ (min (Int.toNat 16) (IntKind.bits .u64)))) (2 ^ (min (Int.toNat 8) (IntKind.bits .u64))))) : Nat) : Int))) : Nat) : Int)))), ())) none) (cond (inb ((UInt8.toNat (zao (Int.fdiv p0 (2 ^ (min (Int.toNat 16) (IntKind.bits .u64))))) : Nat) : Int) 256) (some ((IntKind.wrap .i64 (16 + (IntKind.wrap .i64 ((UInt8.toNat (nth .u8 zmr (Int.toNat ((UInt8.toNat (zao (Int.fdiv p0 (2 ^ (min (Int.toNat 16) (IntKind.bits .u64))))) : Nat) : Int))) : Nat) : Int)))), ())) none)) (cond (decide (256 <= p0)) (cond (inb ((UInt8.toNat (zao (Int.fdiv p0 (2 ^ (min (Int.toNat 8) (IntKind.bits .u64))))) : Nat) : Int) 256) (some ((IntKind.wrap .i64 (8 + (IntKind.wrap .i64 ((UInt8.toNat (nth .u8 zmr (Int.toNat ((UInt8.toNat (zao (Int.fdiv p0 (2 ^ (min (Int.toNat 8) (IntKind.bits .u64))))) : Nat) : Int))) : Nat) : Int)))), ())) none) (cond (inb ((UInt8.toNat (zao p0) : Nat) : Int) 256) (some ((IntKind.wrap .i64 (0 + (IntKind.wrap .i64 ((UInt8.toNat (nth .u8 zmr (Int.toNat ((UInt8.toNat (zao p0) : Nat) : Int))) : Nat) : Int)))), ())) none))))
def jx (N : Nat) (p0 : Int) : Option (Int × Unit) :=
 (some ((Int.fdiv (IntKind.wrap .i64 (p0 * 78913)) (2 ^ (min (Int.toNat 18) (IntKind.bits .i64)))), ()))
def jz (N : Nat) (p0 : Bool) : Option (Int × Unit) :=
 (cond p0 (some (1, ())) (some (0, ())))
def zq (N : Nat) (p0 : Int) : Option (Int × Unit) :=
 (Option.bind (jm N p0) fun y1 => (Option.bind (jx N y1.1) fun y2 => (cond ((inb y2.1 20) && (inb y2.1 20)) (Option.bind (jz N (decide ((nth (.int .u64) ([1, 10, 100, 1000, 10000, 100000, 1000000, 10000000, 100000000, 1000000000, 10000000000, 100000000000, 1000000000000, 10000000000000, 100000000000000, 1000000000000000, 10000000000000000, 100000000000000000, 1000000000000000000, 10000000000000000000] : List Int) (Int.toNat y2.1)) <= p0))) fun y3 => (some ((IntKind.wrap .i64 (y2.1 + y3.1)), ()))) none)))
def zr (N : Nat) {R : Type} (x3 : Nat) (x4 : Nat) (x5 : Int) (x6 : Int) (x7 : List UInt8) (rec_ : (Nat) -> (Nat) -> (Int) -> (Int) -> (List UInt8) -> Option R) (o0 : (Nat) -> (Nat) -> (Int) -> (Int) -> (List UInt8) -> Option R) : Option R :=
 (cond (decide (8 <= x6)) (cond (inb (IntKind.wrap .u32 ((IntKind.wrap .u32 ((Int.tmod (Int.tmod (IntKind.wrap .u32 (Int.tmod x5 100000000)) 10000) 100) * 2)) + 1)) 200) (cond (inb (IntKind.wrap .u32 ((Int.tmod (Int.tmod (IntKind.wrap .u32 (Int.tmod x5 100000000)) 10000) 100) * 2)) 200) (cond (inb (IntKind.wrap .i64 (x6 - 1)) x4) (cond (inb (IntKind.wrap .i64 (x6 - 2)) x4) (cond (inb (IntKind.wrap .u32 ((IntKind.wrap .u32 ((IntKind.wrap .u32 (Int.tdiv (Int.tmod (IntKind.wrap .u32 (Int.tmod x5 100000000)) 10000) 100)) * 2)) + 1)) 200) (cond (inb (IntKind.wrap .u32 ((IntKind.wrap .u32 (Int.tdiv (Int.tmod (IntKind.wrap .u32 (Int.tmod x5 100000000)) 10000) 100)) * 2)) 200) (cond (inb (IntKind.wrap .i64 (x6 - 3)) x4) (cond (inb (IntKind.wrap .i64 (x6 - 4)) x4) (cond (inb (IntKind.wrap .u32 ((IntKind.wrap .u32 ((Int.tmod (IntKind.wrap .u32 (Int.tdiv (IntKind.wrap .u32 (Int.tmod x5 100000000)) 10000)) 100) * 2)) + 1)) 200) (cond (inb (IntKind.wrap .u32 ((Int.tmod (IntKind.wrap .u32 (Int.tdiv (IntKind.wrap .u32 (Int.tmod x5 100000000)) 10000)) 100) * 2)) 200) (cond (inb (IntKind.wrap .i64 (x6 - 5)) x4) (cond (inb (IntKind.wrap .i64 (x6 - 6)) x4) (cond (inb (IntKind.wrap .u32 ((IntKind.wrap .u32 ((IntKind.wrap .u32 (Int.tdiv (IntKind.wrap .u32 (Int.tdiv (IntKind.wrap .u32 (Int.tmod x5 100000000)) 10000)) 100)) * 2)) + 1)) 200) (cond (inb (IntKind.wrap .u32 ((IntKind.wrap .u32 (Int.tdiv (IntKind.wrap .u32 (Int.tdiv (IntKind.wrap .u32 (Int.tmod x5 100000000)) 10000)) 100)) * 2)) 200) (cond (inb (IntKind.wrap .i64 (x6 - 7)) x4) (cond (inb (IntKind.wrap .i64 (x6 - 8)) x4) (rec_ x3 x4 (IntKind.wrap .u64 (Int.tdiv x5 100000000)) (IntKind.wrap .i64 (x6 - 8)) (List.set (List.set (List.set (List.set (List.set (List.set (List.set (List.set x7 (x3 + (Int.toNat (IntKind.wrap .i64 (x6 - 1)))) (nth .u8 zaC (Int.toNat (IntKind.wrap .u32 ((IntKind.wrap .u32 ((Int.tmod (Int.tmod (IntKind.wrap .u32 (Int.tmod x5 100000000)) 10000) 100) * 2)) + 1))))) (x3 + (Int.toNat (IntKind.wrap .i64 (x6 - 2)))) (nth .u8 zaC (Int.toNat (IntKind.wrap .u32 ((Int.tmod (Int.tmod (IntKind.wrap .u32 (Int.tmod x5 100000000)) 10000) 100) * 2))))) (x3 + (Int.toNat (IntKind.wrap .i64 (x6 - 3)))) (nth .u8 zaC (Int.toNat (IntKind.wrap .u32 ((IntKind.wrap .u32 ((IntKind.wrap .u32 (Int.tdiv (Int.tmod (IntKind.wrap .u32 (Int.tmod x5 100000000)) 10000) 100)) * 2)) + 1))))) (x3 + (Int.toNat (IntKind.wrap .i64 (x6 - 4)))) (nth .u8 zaC (Int.toNat (IntKind.wrap .u32 ((IntKind.wrap .u32 (Int.tdiv (Int.tmod (IntKind.wrap .u32 (Int.tmod x5 100000000)) 10000) 100)) * 2))))) (x3 + (Int.toNat (IntKind.wrap .i64 (x6 - 5)))) (nth .u8 zaC (Int.toNat (IntKind.wrap .u32 ((IntKind.wrap .u32 ((Int.tmod (IntKind.wrap .u32 (Int.tdiv (IntKind.wrap .u32 (Int.tmod x5 100000000)) 10000)) 100) * 2)) + 1))))) (x3 + (Int.toNat (IntKind.wrap .i64 (x6 - 6)))) (nth .u8 zaC (Int.toNat (IntKind.wrap .u32 ((Int.tmod (IntKind.wrap .u32 (Int.tdiv (IntKind.wrap .u32 (Int.tmod x5 100000000)) 10000)) 100) * 2))))) (x3 + (Int.toNat (IntKind.wrap .i64 (x6 - 7)))) (nth .u8 zaC (Int.toNat (IntKind.wrap .u32 ((IntKind.wrap .u32 ((IntKind.wrap .u32 (Int.tdiv (IntKind.wrap .u32 (Int.tdiv (IntKind.wrap .u32 (Int.tmod x5 100000000)) 10000)) 100)) * 2)) + 1))))) (x3 + (Int.toNat (IntKind.wrap .i64 (x6 - 8)))) (nth .u8 zaC (Int.toNat (IntKind.wrap .u32 ((IntKind.wrap .u32 (Int.tdiv (IntKind.wrap .u32 (Int.tdiv (IntKind.wrap .u32 (Int.tmod x5 100000000)) 10000)) 100)) * 2)))))) none) none) none) none) none) none) none) none) none) none) none) none) none) none) none) none) (o0 x3 x4 x5 x6 x7))
def zd (N : Nat) : Nat -> (Nat) -> (Nat) -> (Int) -> (Int) -> (List UInt8) -> Option ((Nat) × (Nat) × (Int) × (Int) × (List UInt8))
 | 0, _, _, _, _, _ => none
 | m + 1, x3, x4, x5, x6, x7 => zr N x3 x4 x5 x6 x7 (zd N m) (fun v0 v1 v2 v3 v4 => some (v0, v1, v2, v3, v4))
def zn (N : Nat) (p0 : Int) : Option ((List UInt8) × Unit) :=
 (cond (decide ((IntKind.wrap .u64 p0) < 100)) (Option.bind (jK N (IntKind.wrap .i64 (IntKind.wrap .u64 p0))) fun y1 => (some (y1.1, ()))) (Option.bind (zq N (IntKind.wrap .u64 p0)) fun y2 => (cond (jV 0 y2.1 24) (Option.bind (zd N N 0 ((Int.toNat y2.1) - 0) (IntKind.wrap .u64 p0) ((((Int.toNat y2.1) - 0) : Nat) : Int) [0, 0, 0, 0, 0, 0, 0, 0, 0, 0, 0, 0, 0, 0, 0, 0, 0, 0, 0, 0, 0, 0, 0, 0]) fun o9 => (cond (decide (4 <= o9.2.2.2.1)) (cond (inb (IntKind.wrap .u32 ((IntKind.wrap .u32 ((Int.tmod (Int.tmod (IntKind.wrap .u32 o9.2.2.1) 10000) 100) * 2)) + 1)) 200) (cond (inb (IntKind.wrap .u32 ((Int.tmod (Int.tmod (IntKind.wrap .u32 o9.2.2.1) 10000) 100) * 2)) 200) (cond (inb (IntKind.wrap .i64 (o9.2.2.2.1 - 1)) o9.2.1) (cond (inb (IntKind.wrap .i64 (o9.2.2.2.1 - 2)) o9.2.1) (cond (inb (IntKind.wrap .u32 ((IntKind.wrap .u32 ((IntKind.wrap .u32 (Int.tdiv (Int.tmod (IntKind.wrap .u32 o9.2.2.1) 10000) 100)) * 2)) + 1)) 200) (cond (inb (IntKind.wrap .u32 ((IntKind.wrap .u32 (Int.tdiv (Int.tmod (IntKind.wrap .u32 o9.2.2.1) 10000) 100)) * 2)) 200) (cond (inb (IntKind.wrap .i64 (o9.2.2.2.1 - 3)) o9.2.1) (cond (inb (IntKind.wrap .i64 (o9.2.2.2.1 - 4)) o9.2.1) (cond (decide (2 <= (IntKind.wrap .i64 (o9.2.2.2.1 - 4)))) (cond (inb (IntKind.wrap .u32 ((IntKind.wrap .u32 ((Int.tmod (IntKind.wrap .u32 (Int.tdiv (IntKind.wrap .u32 o9.2.2.1) 10000)) 100) * 2)) + 1)) 200) (cond (inb (IntKind.wrap .u32 ((Int.tmod (IntKind.wrap .u32 (Int.tdiv (IntKind.wrap .u32 o9.2.2.1) 10000)) 100) * 2)) 200) (cond (inb (IntKind.wrap .i64 ((IntKind.wrap .i64 (o9.2.2.2.1 - 4)) - 1)) o9.2.1) (cond (inb (IntKind.wrap .i64 ((IntKind.wrap .i64 (o9.2.2.2.1 - 4)) - 2)) o9.2.1) (cond (decide (0 < (IntKind.wrap .i64 ((IntKind.wrap .i64 (o9.2.2.2.1 - 4)) - 2)))) (cond (inb 0 o9.2.1) (cond (jV 0 y2.1 24) (some ((slice (List.set (List.set (List.set (List.set (List.set (List.set (List.set o9.2.2.2.2 (o9.1 + (Int.toNat (IntKind.wrap .i64 (o9.2.2.2.1 - 1)))) (nth .u8 zaC (Int.toNat (IntKind.wrap .u32 ((IntKind.wrap .u32 ((Int.tmod (Int.tmod (IntKind.wrap .u32 o9.2.2.1) 10000) 100) * 2)) + 1))))) (o9.1 + (Int.toNat (IntKind.wrap .i64 (o9.2.2.2.1 - 2)))) (nth .u8 zaC (Int.toNat (IntKind.wrap .u32 ((Int.tmod (Int.tmod (IntKind.wrap .u32 o9.2.2.1) 10000) 100) * 2))))) (o9.1 + (Int.toNat (IntKind.wrap .i64 (o9.2.2.2.1 - 3)))) (nth .u8 zaC (Int.toNat (IntKind.wrap .u32 ((IntKind.wrap .u32 ((IntKind.wrap .u32 (Int.tdiv (Int.tmod (IntKind.wrap .u32 o9.2.2.1) 10000) 100)) * 2)) + 1))))) (o9.1 + (Int.toNat (IntKind.wrap .i64 (o9.2.2.2.1 - 4)))) (nth .u8 zaC (Int.toNat (IntKind.wrap .u32 ((IntKind.wrap .u32 (Int.tdiv (Int.tmod (IntKind.wrap .u32 o9.2.2.1) 10000) 100)) * 2))))) (o9.1 + (Int.toNat (IntKind.wrap .i64 ((IntKind.wrap .i64 (o9.2.2.2.1 - 4)) - 1)))) (nth .u8 zaC (Int.toNat (IntKind.wrap .u32 ((IntKind.wrap .u32 ((Int.tmod (IntKind.wrap .u32 (Int.tdiv (IntKind.wrap .u32 o9.2.2.1) 10000)) 100) * 2)) + 1))))) (o9.1 + (Int.toNat (IntKind.wrap .i64 ((IntKind.wrap .i64 (o9.2.2.2.1 - 4)) - 2)))) (nth .u8 zaC (Int.toNat (IntKind.wrap .u32 ((Int.tmod (IntKind.wrap .u32 (Int.tdiv (IntKind.wrap .u32 o9.2.2.1) 10000)) 100) * 2))))) (o9.1 + 0) (zao (IntKind.wrap .u32 (48 + (IntKind.wrap .u32 (Int.tdiv (IntKind.wrap .u32 (Int.tdiv (IntKind.wrap .u32 o9.2.2.1) 10000)) 100)))))) 0 (0 + ((Int.toNat y2.1) - 0))), ())) none) none) (cond (jV 0 y2.1 24) (some ((slice (List.set (List.set (List.set (List.set (List.set (List.set o9.2.2.2.2 (o9.1 + (Int.toNat (IntKind.wrap .i64 (o9.2.2.2.1 - 1)))) (nth .u8 zaC (Int.toNat (IntKind.wrap .u32 ((IntKind.wrap .u32 ((Int.tmod (Int.tmod (IntKind.wrap .u32 o9.2.2.1) 10000) 100) * 2)) + 1))))) (o9.1 + (Int.toNat (IntKind.wrap .i64 (o9.2.2.2.1 - 2)))) (nth .u8 zaC (Int.toNat (IntKind.wrap .u32 ((Int.tmod (Int.tmod (IntKind.wrap .u32 o9.2.2.1) 10000) 100) * 2))))) (o9.1 + (Int.toNat (IntKind.wrap .i64 (o9.2.2.2.1 - 3)))) (nth .u8 zaC (Int.toNat (IntKind.wrap .u32 ((IntKind.wrap .u32 ((IntKind.wrap .u32 (Int.tdiv (Int.tmod (IntKind.wrap .u32 o9.2.2.1) 10000) 100)) * 2)) + 1))))) (o9.1 + (Int.toNat (IntKind.wrap .i64 (o9.2.2.2.1 - 4)))) (nth .u8 zaC (Int.toNat (IntKind.wrap .u32 ((IntKind.wrap .u32 (Int.tdiv (Int.tmod (IntKind.wrap .u32 o9.2.2.1) 10000) 100)) * 2))))) (o9.1 + (Int.toNat (IntKind.wrap .i64 ((IntKind.wrap .i64 (o9.2.2.2.1 - 4)) - 1)))) (nth .u8 zaC (Int.toNat (IntKind.wrap .u32 ((IntKind.wrap .u32 ((Int.tmod (IntKind.wrap .u32 (Int.tdiv (IntKind.wrap .u32 o9.2.2.1) 10000)) 100) * 2)) + 1))))) (o9.1 + (Int.toNat (IntKind.wrap .i64 ((IntKind.wrap .i64 (o9.2.2.2.1 - 4)) - 2)))) (nth .u8 zaC (Int.toNat (IntKind.wrap .u32 ((Int.tmod (IntKind.wrap .u32 (Int.tdiv (IntKind.wrap .u32 o9.2.2.1) 10000)) 100) * 2))))) 0 (0 + ((Int.toNat y2.1) - 0))), ())) none)) none) none) none) none) (cond (decide (0 < (IntKind.wrap .i64 (o9.2.2.2.1 - 4)))) (cond (inb 0 o9.2.1) (cond (jV 0 y2.1 24) (some ((slice (List.set (List.set (List.set (List.set (List.set o9.2.2.2.2 (o9.1 + (Int.toNat (IntKind.wrap .i64 (o9.2.2.2.1 - 1)))) (nth .u8 zaC (Int.toNat (IntKind.wrap .u32 ((IntKind.wrap .u32 ((Int.tmod (Int.tmod (IntKind.wrap .u32 o9.2.2.1) 10000) 100) * 2)) + 1))))) (o9.1 + (Int.toNat (IntKind.wrap .i64 (o9.2.2.2.1 - 2)))) (nth .u8 zaC (Int.toNat (IntKind.wrap .u32 ((Int.tmod (Int.tmod (IntKind.wrap .u32 o9.2.2.1) 10000) 100) * 2))))) (o9.1 + (Int.toNat (IntKind.wrap .i64 (o9.2.2.2.1 - 3)))) (nth .u8 zaC (Int.toNat (IntKind.wrap .u32 ((IntKind.wrap .u32 ((IntKind.wrap .u32 (Int.tdiv (Int.tmod (IntKind.wrap .u32 o9.2.2.1) 10000) 100)) * 2)) + 1))))) (o9.1 + (Int.toNat (IntKind.wrap .i64 (o9.2.2.2.1 - 4)))) (nth .u8 zaC (Int.toNat (IntKind.wrap .u32 ((IntKind.wrap .u32 (Int.tdiv (Int.tmod (IntKind.wrap .u32 o9.2.2.1) 10000) 100)) * 2))))) (o9.1 + 0) (zao (IntKind.wrap .u32 (48 + (IntKind.wrap .u32 (Int.tdiv (IntKind.wrap .u32 o9.2.2.1) 10000)))))) 0 (0 + ((Int.toNat y2.1) - 0))), ())) none) none) (cond (jV 0 y2.1 24) (some ((slice (List.set (List.set (List.set (List.set o9.2.2.2.2 (o9.1 + (Int.toNat (IntKind.wrap .i64 (o9.2.2.2.1 - 1)))) (nth .u8 zaC (Int.toNat (IntKind.wrap .u32 ((IntKind.wrap .u32 ((Int.tmod (Int.tmod (IntKind.wrap .u32 o9.2.2.1) 10000) 100) * 2)) + 1))))) (o9.1 + (Int.toNat (IntKind.wrap .i64 (o9.2.2.2.1 - 2)))) (nth .u8 zaC (Int.toNat (IntKind.wrap .u32 ((Int.tmod (Int.tmod (IntKind.wrap .u32 o9.2.2.1) 10000) 100) * 2))))) (o9.1 + (Int.toNat (IntKind.wrap .i64 (o9.2.2.2.1 - 3)))) (nth .u8 zaC (Int.toNat (IntKind.wrap .u32 ((IntKind.wrap .u32 ((IntKind.wrap .u32 (Int.tdiv (Int.tmod (IntKind.wrap .u32 o9.2.2.1) 10000) 100)) * 2)) + 1))))) (o9.1 + (Int.toNat (IntKind.wrap .i64 (o9.2.2.2.1 - 4)))) (nth .u8 zaC (Int.toNat (IntKind.wrap .u32 ((IntKind.wrap .u32 (Int.tdiv (Int.tmod (IntKind.wrap .u32 o9.2.2.1) 10000) 100)) * 2))))) 0 (0 + ((Int.toNat y2.1) - 0))), ())) none))) none) none) none) none) none) none) none) none) (cond (decide (2 <= o9.2.2.2.1)) (cond (inb (IntKind.wrap .u32 ((IntKind.wrap .u32 ((Int.tmod (IntKind.wrap .u32 o9.2.2.1) 100) * 2)) + 1)) 200) (cond (inb (IntKind.wrap .u32 ((Int.tmod (IntKind.wrap .u32 o9.2.2.1) 100) * 2)) 200) (cond (inb (IntKind.wrap .i64 (o9.2.2.2.1 - 1)) o9.2.1) (cond (inb (IntKind.wrap .i64 (o9.2.2.2.1 - 2)) o9.2.1) (cond (decide (0 < (IntKind.wrap .i64 (o9.2.2.2.1 - 2)))) (cond (inb 0 o9.2.1) (cond (jV 0 y2.1 24) (some ((slice (List.set (List.set (List.set o9.2.2.2.2 (o9.1 + (Int.toNat (IntKind.wrap .i64 (o9.2.2.2.1 - 1)))) (nth .u8 zaC (Int.toNat (IntKind.wrap .u32 ((IntKind.wrap .u32 ((Int.tmod (IntKind.wrap .u32 o9.2.2.1) 100) * 2)) + 1))))) (o9.1 + (Int.toNat (IntKind.wrap .i64 (o9.2.2.2.1 - 2)))) (nth .u8 zaC (Int.toNat (IntKind.wrap .u32 ((Int.tmod (IntKind.wrap .u32 o9.2.2.1) 100) * 2))))) (o9.1 + 0) (zao (IntKind.wrap .u32 (48 + (IntKind.wrap .u32 (Int.tdiv (IntKind.wrap .u32 o9.2.2.1) 100)))))) 0 (0 + ((Int.toNat y2.1) - 0))), ())) none) none) (cond (jV 0 y2.1 24) (some ((slice (List.set (List.set o9.2.2.2.2 (o9.1 + (Int.toNat (IntKind.wrap .i64 (o9.2.2.2.1 - 1)))) (nth .u8 zaC (Int.toNat (IntKind.wrap .u32 ((IntKind.wrap .u32 ((Int.tmod (IntKind.wrap .u32 o9.2.2.1) 100) * 2)) + 1))))) (o9.1 + (Int.toNat (IntKind.wrap .i64 (o9.2.2.2.1 - 2)))) (nth .u8 zaC (Int.toNat (IntKind.wrap .u32 ((Int.tmod (IntKind.wrap .u32 o9.2.2.1) 100) * 2))))) 0 (0 + ((Int.toNat y2.1) - 0))), ())) none)) none) none) none) none) (cond (decide (0 < o9.2.2.2.1)) (cond (inb 0 o9.2.1) (cond (jV 0 y2.1 24) (some ((slice (List.set o9.2.2.2.2 (o9.1 + 0) (zao (IntKind.wrap .u32 (48 + (IntKind.wrap .u32 o9.2.2.1))))) 0 (0 + ((Int.toNat y2.1) - 0))), ())) none) none) (cond (jV 0 y2.1 24) (some ((slice o9.2.2.2.2 0 (0 + ((Int.toNat y2.1) - 0))), ())) none))))) none)))
def jP (N : Nat) (p0 : (List UInt8)) : Option (Int × Bool × Unit) :=
 (cond (Nat.ble (List.length p0) zkf) (zkJ (Go.Lib.parseUintB 32 p0) (fun u1 => (Option.bind (zn N (IntKind.wrap .u32 u1)) fun y2 => (cond (y2.1 != p0) (some (0, false, ())) (some ((IntKind.wrap .u32 u1), true, ()))))) (some (0, false, ())) (some (0, false, ()))) none)
def zV (N : Nat) (p0 : (List UInt8)) : Option ((List UInt8) × Unit) :=
 (cond (Nat.blt (0 + (List.length p0)) jH) (some (([] ++ p0), ())) none)
def qK (N : Nat) (p0 : (List UInt8)) (p1 : Int) : Option ((List UInt8) × Int × Bool × Unit) :=
 (cond (decide (p1 < 0)) (some ([], 0, false, ())) (cond (decide ((((List.length p0) : Nat) : Int) <= p1)) (some ([], 0, false, ())) (cond (inb (IntKind.wrap .i64 ((IntKind.wrap .i64 (p1 + 1)) - 1)) (List.length p0)) (cond (!((nth .u8 p0 (Int.toNat (IntKind.wrap .i64 ((IntKind.wrap .i64 (p1 + 1)) - 1)))) == 123)) (some ([], 0, false, ())) (cond (qc (IntKind.wrap .i64 (p1 + 1)) p0 && true) (Option.bind (qC N (ze p0 (Int.toNat (IntKind.wrap .i64 (p1 + 1)))) 125) fun y1 => (cond (decide (y1.1 < 0)) (some ([], 0, false, ())) (cond ((jV (IntKind.wrap .i64 (p1 + 1)) (IntKind.wrap .i64 ((IntKind.wrap .i64 (p1 + 1)) + y1.1)) (List.length p0)) && true) (Option.bind (jP N (slice p0 (Int.toNat (IntKind.wrap .i64 (p1 + 1))) (Int.toNat (IntKind.wrap .i64 ((IntKind.wrap .i64 (p1 + 1)) + y1.1))))) fun y2 => (cond (!y2.2.1) (some ([], 0, false, ())) (cond (decide (65536 < y2.1)) (some ([], 0, false, ())) (cond (decide ((IntKind.wrap .i64 ((IntKind.wrap .i64 (p1 + 1)) + (IntKind.wrap .i64 (y1.1 + 1)))) < 0)) (some ([], 0, false, ())) (cond (decide ((((List.length p0) : Nat) : Int) <= (IntKind.wrap .i64 ((IntKind.wrap .i64 (p1 + 1)) + (IntKind.wrap .i64 (y1.1 + 1)))))) (some ([], 0, false, ())) (cond (inb (IntKind.wrap .i64 ((IntKind.wrap .i64 ((IntKind.wrap .i64 ((IntKind.wrap .i64 (p1 + 1)) + (IntKind.wrap .i64 (y1.1 + 1)))) + 1)) - 1)) (List.length p0)) (cond (!((nth .u8 p0 (Int.toNat (IntKind.wrap .i64 ((IntKind.wrap .i64 ((IntKind.wrap .i64 ((IntKind.wrap .i64 (p1 + 1)) + (IntKind.wrap .i64 (y1.1 + 1)))) + 1)) - 1)))) == 13)) (some ([], 0, false, ())) (cond (decide ((IntKind.wrap .i64 ((IntKind.wrap .i64 ((IntKind.wrap .i64 (p1 + 1)) + (IntKind.wrap .i64 (y1.1 + 1)))) + 1)) < 0)) (some ([], 0, false, ())) (cond (decide ((((List.length p0) : Nat) : Int) <= (IntKind.wrap .i64 ((IntKind.wrap .i64 ((IntKind.wrap .i64 (p1 + 1)) + (IntKind.wrap .i64 (y1.1 + 1)))) + 1)))) (some ([], 0, false, ())) (cond (inb (IntKind.wrap .i64 ((IntKind.wrap .i64 ((IntKind.wrap .i64 ((IntKind.wrap .i64 ((IntKind.wrap .i64 (p1 + 1)) + (IntKind.wrap .i64 (y1.1 + 1)))) + 1)) + 1)) - 1)) (List.length p0)) (cond (!((nth .u8 p0 (Int.toNat (IntKind.wrap .i64 ((IntKind.wrap .i64 ((IntKind.wrap .i64 ((IntKind.wrap .i64 ((IntKind.wrap .i64 (p1 + 1)) + (IntKind.wrap .i64 (y1.1 + 1)))) + 1)) + 1)) - 1)))) == 10)) (some ([], 0, false, ())) (cond (decide ((IntKind.wrap .i64 ((((List.length p0) : Nat) : Int) - (IntKind.wrap .i64 ((IntKind.wrap .i64 ((IntKind.wrap .i64 ((IntKind.wrap .i64 (p1 + 1)) + (IntKind.wrap .i64 (y1.1 + 1)))) + 1)) + 1)))) < (IntKind.wrap .i64 y2.1))) (some ([], 0, false, ())) (cond ((jV (IntKind.wrap .i64 ((IntKind.wrap .i64 ((IntKind.wrap .i64 ((IntKind.wrap .i64 (p1 + 1)) + (IntKind.wrap .i64 (y1.1 + 1)))) + 1)) + 1)) (IntKind.wrap .i64 ((IntKind.wrap .i64 ((IntKind.wrap .i64 ((IntKind.wrap .i64 ((IntKind.wrap .i64 (p1 + 1)) + (IntKind.wrap .i64 (y1.1 + 1)))) + 1)) + 1)) + (IntKind.wrap .i64 y2.1))) (List.length p0)) && true) (Option.bind (zV N (slice p0 (Int.toNat (IntKind.wrap .i64 ((IntKind.wrap .i64 ((IntKind.wrap .i64 ((IntKind.wrap .i64 (p1 + 1)) + (IntKind.wrap .i64 (y1.1 + 1)))) + 1)) + 1))) (Int.toNat (IntKind.wrap .i64 ((IntKind.wrap .i64 ((IntKind.wrap .i64 ((IntKind.wrap .i64 ((IntKind.wrap .i64 (p1 + 1)) + (IntKind.wrap .i64 (y1.1 + 1)))) + 1)) + 1)) + (IntKind.wrap .i64 y2.1)))))) fun y3 => (some (y3.1, (IntKind.wrap .i64 ((IntKind.wrap .i64 ((IntKind.wrap .i64 ((IntKind.wrap .i64 ((IntKind.wrap .i64 (p1 + 1)) + (IntKind.wrap .i64 (y1.1 + 1)))) + 1)) + 1)) + (IntKind.wrap .i64 y2.1))), true, ()))) none))) none)))) none)))))) none))) none)) none)))
def z8 (N : Nat) (p0 : (List UInt8)) (p1 : UInt8) : Option (Int × Unit) :=
 (some ((qR p1 p0 0), ()))
def kD (N : Nat) (p0 : (List UInt8)) (p1 : UInt8) : Option (Int × Unit) :=
 (Option.bind (z8 N p0 p1) fun y1 => (some (y1.1, ())))
def wm (N : Nat) (p0 : UInt8) : Option (Bool × Unit) :=
 (cond (decide (32 < p0)) (cond (decide (p0 <= 126)) (Option.bind (kD N [40, 41, 34, 123] p0) fun y1 => (some ((decide (y1.1 < 0)), ()))) (some (false, ()))) (some (false, ())))
def wZ (N : Nat) {R : Type} (x81 : Int) (x82 : List UInt8) (x83 : Int) (rec_ : (Int) -> (List UInt8) -> (Int) -> Option R) (o0 : (Int) -> (List UInt8) -> (Int) -> Option R) : Option R :=
 (cond (decide (x83 < (((List.length x82) : Nat) : Int))) (cond (inb x83 (List.length x82)) (Option.bind (wm N (nth .u8 x82 (Int.toNat x83))) fun y86 => (cond y86.1 (rec_ x81 x82 (IntKind.wrap .i64 (x83 + 1))) (o0 x81 x82 x83))) none) (o0 x81 x82 x83))
def zW (N : Nat) : Nat -> (Int) -> (List UInt8) -> (Int) -> Option ((Int) × (List UInt8) × (Int))
 | 0, _, _, _ => none
 | m + 1, x81, x82, x83 => wZ N x81 x82 x83 (zW N m) (fun v0 v1 v2 => some (v0, v1, v2))
def wX (N : Nat) {R : Type} (x62 : List UInt8) (x63 : Int) (x64 : List (El uS1)) (rec_ : (List UInt8) -> (Int) -> (List (El uS1)) -> Option R) (o0 : (List UInt8) -> (Int) -> (List (El uS1)) -> Option R) (o1 : (Int) -> (List UInt8) -> (Int) -> (List (El uS1)) -> Option R) : Option R :=
 (cond (x63 == (((List.length x62) : Nat) : Int)) (cond (Nat.blt ((List.length x64) + 1) jH) (o0 x62 x63 (x64 ++ ([(0, ([], x63))] : List (El uS1)))) none) (cond (inb x63 (List.length x62)) (cond ((nth .u8 x62 (Int.toNat x63)) == 32) (cond (Nat.blt ((List.length x64) + 1) jH) (rec_ x62 (IntKind.wrap .i64 (x63 + 1)) (x64 ++ ([(1, ([], x63))] : List (El uS1)))) none) (cond ((nth .u8 x62 (Int.toNat x63)) == 40) (cond (Nat.blt ((List.length x64) + 1) jH) (rec_ x62 (IntKind.wrap .i64 (x63 + 1)) (x64 ++ ([(2, ([], x63))] : List (El uS1)))) none) (cond ((nth .u8 x62 (Int.toNat x63)) == 41) (cond (Nat.blt ((List.length x64) + 1) jH) (rec_ x62 (IntKind.wrap .i64 (x63 + 1)) (x64 ++ ([(3, ([], x63))] : List (El uS1)))) none) (cond ((nth .u8 x62 (Int.toNat x63)) == 34) (Option.bind (qZ N x62 x63) fun y77 => (cond y77.2.2.1 (cond (!y77.2.2.1) (o1 x63 x62 y77.2.1 x64) (cond (Nat.blt ((List.length x64) + 1) jH) (rec_ x62 y77.2.1 (x64 ++ ([(5, (y77.1, x63))] : List (El uS1)))) none)) (cond (!y77.2.2.1) (o1 x63 x62 x63 x64) (cond (Nat.blt ((List.length x64) + 1) jH) (rec_ x62 x63 (x64 ++ ([(5, (y77.1, x63))] : List (El uS1)))) none)))) (cond ((nth .u8 x62 (Int.toNat x63)) == 123) (Option.bind (qK N x62 x63) fun y78 => (cond y78.2.2.1 (cond (!y78.2.2.1) (o1 x63 x62 y78.2.1 x64) (cond (Nat.blt ((List.length x64) + 1) jH) (rec_ x62 y78.2.1 (x64 ++ ([(6, (y78.1, x63))] : List (El uS1)))) none)) (cond (!y78.2.2.1) (o1 x63 x62 x63 x64) (cond (Nat.blt ((List.length x64) + 1) jH) (rec_ x62 x63 (x64 ++ ([(6, (y78.1, x63))] : List (El uS1)))) none)))) (Option.bind (zW N N x63 x62 x63) fun o87 => (cond ((jV o87.1 o87.2.2 (List.length o87.2.1)) && true) (cond (!(decide (o87.1 < o87.2.2))) (o1 x63 o87.2.1 o87.2.2 x64) (cond (Nat.blt ((List.length x64) + 1) jH) (rec_ o87.2.1 o87.2.2 (x64 ++ ([(4, ((slice o87.2.1 (Int.toNat o87.1) (Int.toNat o87.2.2)), x63))] : List (El uS1)))) none)) none))))))) none))
def zG (N : Nat) : Nat -> (List UInt8) -> (Int) -> (List (El uS1)) -> Option (((List UInt8) × (Int) × (List (El uS1))) ⊕ ((Int) × (List UInt8) × (Int) × (List (El uS1))))
 | 0, _, _, _ => none
 | m + 1, x62, x63, x64 => wX N x62 x63 x64 (zG N m) (fun v0 v1 v2 => some (Sum.inl (v0, v1, v2))) (fun v0 v1 v2 v3 => some (Sum.inr (v0, v1, v2, v3)))
def wh (N : Nat) (p0 : (List UInt8)) : Option ((List (El uS1)) × Int × Unit) :=
 (Option.bind (zG N N p0 0 []) fun o92 => (zm o92 (fun a93 => (some (a93.2.2, (-1), ()))) (fun b94 => (some ([], b94.1, ())))))
def kB (N : Nat) {R : Type} (x4 : List Int) (x5 : Int) (x6 : Int) (x7 : Int) (rec_ : (List Int) -> (Int) -> (Int) -> (Int) -> Option R) (o0 : (Int) -> Option R) (o1 : Unit -> Option R) : Option R :=
 (cond (decide (x7 < x6)) (cond (inb x7 (List.length x4)) (cond (x5 == (nth (.int .i64) x4 (Int.toNat x7))) (o0 x7) (rec_ x4 x5 x6 (IntKind.wrap .i64 (x7 + 1)))) none) (o1 ()))
def zF (N : Nat) : Nat -> (List Int) -> (Int) -> (Int) -> (Int) -> Option (((Int)) ⊕ (Unit))
 | 0, _, _, _, _ => none
 | m + 1, x4, x5, x6, x7 => kB N x4 x5 x6 x7 (zF N m) (fun v0 => some (Sum.inl v0)) (fun _ => some (Sum.inr ()))
def qf (N : Nat) (p0 : (List Int)) (p1 : Int) : Option (Int × Unit) :=
 (Option.bind (zF N N p0 p1 (((List.length p0) : Nat) : Int) 0) fun o13 => (zm o13 (fun a14 => (some (a14, ()))) (fun b15 => (some ((-1), ())))))
def za (N : Nat) (p0 : (List Int)) (p1 : Int) : Option (Bool × Unit) :=
 (Option.bind (qf N p0 p1) fun y1 => (some ((decide (0 <= y1.1)), ())))
def xn (N : Nat) {R : Type} (x5 : Int) (x6 : Int) (x7 : List UInt8) (rec_ : (Int) -> (Int) -> (List UInt8) -> Option R) (o0 : (List UInt8) -> Option R) : Option R :=
 (cond (decide (x6 < x5)) (cond (inb x6 (List.length x7)) (cond (decide (97 <= (nth .u8 x7 (Int.toNat x6)))) (cond (decide ((nth .u8 x7 (Int.toNat x6)) <= 122)) (cond (inb x6 (List.length x7)) (rec_ x5 (IntKind.wrap .i64 (x6 + 1)) (List.set x7 (Int.toNat x6) ((nth .u8 x7 (Int.toNat x6)) &&& ~~~32))) none) (cond (inb x6 (List.length x7)) (rec_ x5 (IntKind.wrap .i64 (x6 + 1)) (List.set x7 (Int.toNat x6) (nth .u8 x7 (Int.toNat x6)))) none)) (cond (inb x6 (List.length x7)) (rec_ x5 (IntKind.wrap .i64 (x6 + 1)) (List.set x7 (Int.toNat x6) (nth .u8 x7 (Int.toNat x6)))) none)) none) (o0 x7))
def qD (N : Nat) : Nat -> (Int) -> (Int) -> (List UInt8) -> Option ((List UInt8))
 | 0, _, _, _ => none
 | m + 1, x5, x6, x7 => xn N x5 x6 x7 (qD N m) (fun v0 => some v0)
def qI (N : Nat) (p0 : (List UInt8)) : Option ((List UInt8) × Unit) :=
 (cond (Nat.blt (List.length p0) jH) (Option.bind (qD N N (((List.length p0) : Nat) : Int) 0 p0) fun o9 => (some (o9, ()))) none)
def jO (N : Nat) {R : Type} (x4 : List (List UInt8)) (x5 : List UInt8) (x6 : Int) (x7 : Int) (rec_ : (List (List UInt8)) -> (List UInt8) -> (Int) -> (Int) -> Option R) (o0 : (Int) -> Option R) (o1 : Unit -> Option R) : Option R :=
 (cond (decide (x7 < x6)) (cond (inb x7 (List.length x4)) (cond (x5 == (nth .str x4 (Int.toNat x7))) (o0 x7) (rec_ x4 x5 x6 (IntKind.wrap .i64 (x7 + 1)))) none) (o1 ()))
def zg (N : Nat) : Nat -> (List (List UInt8)) -> (List UInt8) -> (Int) -> (Int) -> Option (((Int)) ⊕ (Unit))
 | 0, _, _, _, _ => none
 | m + 1, x4, x5, x6, x7 => jO N x4 x5 x6 x7 (zg N m) (fun v0 => some (Sum.inl v0)) (fun _ => some (Sum.inr ()))
def zl (N : Nat) (p0 : (List (List UInt8))) (p1 : (List UInt8)) : Option (Int × Unit) :=
 (Option.bind (zg N N p0 p1 (((List.length p0) : Nat) : Int) 0) fun o13 => (zm o13 (fun a14 => (some (a14, ()))) (fun b15 => (some ((-1), ())))))
def jt (N : Nat) (p0 : (List UInt8)) : Option (Int × Bool × Unit) :=
 (Option.bind (qI N p0) fun y1 => (Option.bind (zl N ([[78, 79, 79, 80], [76, 79, 71, 79, 85, 84], [67, 76, 79, 83, 69], [69, 88, 80, 85, 78, 71, 69], [83, 69, 76, 69, 67, 84], [65, 80, 80, 69, 78, 68], [70, 69, 84, 67, 72], [83, 84, 79, 82, 69]] : List (List UInt8)) y1.1) fun y2 => (some ((IntKind.wrap .i64 (y2.1 + 1)), (decide (0 <= y2.1)), ()))))
def xX (N : Nat) (p0 : UInt8) : Option (Bool × Unit) :=
 (Option.bind (xY N p0) fun y1 => (some (y1.1, ())))
def zI (N : Nat) (p0 : UInt8) : Option (Bool × Unit) :=
 (Option.bind (xX N p0) fun y1 => (cond y1.1 (some (true, ())) (some ((p0 == 93), ()))))
def qP (N : Nat) (p0 : (List UInt8)) (p1 : (List UInt8)) : Option (Bool × Unit) :=
 (cond (decide ((((List.length p1) : Nat) : Int) <= (((List.length p0) : Nat) : Int))) (cond (jV 0 (((List.length p1) : Nat) : Int) (List.length p0)) (some (((slice p0 0 (Int.toNat (((List.length p1) : Nat) : Int))) == p1), ())) none) (some (false, ())))
def qN (N : Nat) (p0 : (List UInt8)) (p1 : (List UInt8)) : Option ((List UInt8) × Bool × Unit) :=
 (Option.bind (qP N p0 p1) fun y1 => (cond (!y1.1) (some (p0, false, ())) (cond (jV (((List.length p1) : Nat) : Int) (((List.length p0) : Nat) : Int) (List.length p0)) (some ((slice p0 (Int.toNat (((List.length p1) : Nat) : Int)) (Int.toNat (((List.length p0) : Nat) : Int))), true, ())) none)))
def qO (N : Nat) (p0 : (List UInt8)) (p1 : (List UInt8)) : Option ((List UInt8) × Bool × Unit) :=
 (Option.bind (qN N p0 p1) fun y1 => (some (y1.1, y1.2.1, ())))
def z7 (N : Nat) (p0 : (List UInt8)) (p1 : (List UInt8)) : Option (Bool × Unit) :=
 (cond (decide ((((List.length p1) : Nat) : Int) <= (((List.length p0) : Nat) : Int))) (cond (jV (IntKind.wrap .i64 ((((List.length p0) : Nat) : Int) - (((List.length p1) : Nat) : Int))) (((List.length p0) : Nat) : Int) (List.length p0)) (some (((slice p0 (Int.toNat (IntKind.wrap .i64 ((((List.length p0) : Nat) : Int) - (((List.length p1) : Nat) : Int)))) (Int.toNat (((List.length p0) : Nat) : Int))) == p1), ())) none) (some (false, ())))
def zY (N : Nat) (p0 : (List UInt8)) (p1 : (List UInt8)) : Option ((List UInt8) × Bool × Unit) :=
 (Option.bind (z7 N p0 p1) fun y1 => (cond (!y1.1) (some (p0, false, ())) (cond (jV 0 (IntKind.wrap .i64 ((((List.length p0) : Nat) : Int) - (((List.length p1) : Nat) : Int))) (List.length p0)) (some ((slice p0 0 (Int.toNat (IntKind.wrap .i64 ((((List.length p0) : Nat) : Int) - (((List.length p1) : Nat) : Int))))), true, ())) none)))
def zM (N : Nat) (p0 : (List UInt8)) (p1 : (List UInt8)) : Option ((List UInt8) × Bool × Unit) :=
 (Option.bind (zY N p0 p1) fun y1 => (some (y1.1, y1.2.1, ())))
def zdD (N : Nat) {R : Type} (x6 : UInt8) (x7 : Int) (x8 : List UInt8) (rec_ : (UInt8) -> (Int) -> (List UInt8) -> Option R) (o0 : (List UInt8) -> Option R) : Option R :=
 (cond (decide (x7 < 5)) (cond (decide (0 <= x7)) (cond ((x6 &&& (zpq 1 x7)) != 0) (cond (Nat.blt ((List.length x8) + 1) jH) (rec_ x6 (IntKind.wrap .i64 (x7 + 1)) (x8 ++ ([(x6 &&& (zpq 1 x7))] : List UInt8))) none) (rec_ x6 (IntKind.wrap .i64 (x7 + 1)) x8)) none) (o0 x8))
def wj (N : Nat) : Nat -> (UInt8) -> (Int) -> (List UInt8) -> Option ((List UInt8))
 | 0, _, _, _ => none
 | m + 1, x6, x7, x8 => zdD N x6 x7 x8 (wj N m) (fun v0 => some v0)
def zbQ (N : Nat) (p0 : UInt8) : Option ((List UInt8) × Unit) :=
 (Option.bind (wj N N p0 0 []) fun o10 => (some (o10, ())))
def zdS (N : Nat) {R : Type} (x3 : UInt8) (x4 : Int) (x5 : List (List UInt8)) (rec_ : (UInt8) -> (Int) -> (List (List UInt8)) -> Option R) (o0 : (List UInt8) -> (List (List UInt8)) -> Option R) (o1 : (List (List UInt8)) -> Option R) : Option R :=
 (cond (decide (x4 < 5)) (cond (inb x4 (List.length x5)) (cond (decide (0 <= x4)) (cond (x3 == (zpq 1 x4)) (o0 (nth .str x5 (Int.toNat x4)) x5) (rec_ x3 (IntKind.wrap .i64 (x4 + 1)) x5)) none) none) (o1 x5))
def wv (N : Nat) : Nat -> (UInt8) -> (Int) -> (List (List UInt8)) -> Option (((List UInt8) × (List (List UInt8))) ⊕ ((List (List UInt8))))
 | 0, _, _, _ => none
 | m + 1, x3, x4, x5 => zdS N x3 x4 x5 (wv N m) (fun v0 v1 => some (Sum.inl (v0, v1))) (fun v0 => some (Sum.inr v0))
def zeb (N : Nat) (p0 : UInt8) : Option ((List UInt8) × Unit) :=
 (Option.bind (wv N N p0 0 ([[92, 65, 110, 115, 119, 101, 114, 101, 100], [92, 70, 108, 97, 103, 103, 101, 100], [92, 68, 101, 108, 101, 116, 101, 100], [92, 83, 101, 101, 110], [92, 68, 114, 97, 102, 116]] : List (List UInt8))) fun o11 => (zm o11 (fun a12 => (some (a12.1, ()))) (fun b13 => (some ([], ())))))
def zcD (N : Nat) {R : Type} (x21 : List UInt8) (x22 : Int) (x23 : Int) (x24 : List ((List UInt8) × UInt8)) (rec_ : (List UInt8) -> (Int) -> (Int) -> (List ((List UInt8) × UInt8)) -> Option R) (o0 : (List ((List UInt8) × UInt8)) -> Option R) : Option R :=
 (cond (decide (x23 < x22)) (cond (inb x23 (List.length x21)) (Option.bind (zeb N (nth .u8 x21 (Int.toNat x23))) fun y28 => (Option.bind (qI N y28.1) fun y29 => (rec_ x21 x22 (IntKind.wrap .i64 (x23 + 1)) (zhg .str .u8 x24 y29.1 (nth .u8 x21 (Int.toNat x23)))))) none) (o0 x24))
def qS (N : Nat) : Nat -> (List UInt8) -> (Int) -> (Int) -> (List ((List UInt8) × UInt8)) -> Option ((List ((List UInt8) × UInt8)))
 | 0, _, _, _, _ => none
 | m + 1, x21, x22, x23, x24 => zcD N x21 x22 x23 x24 (qS N m) (fun v0 => some v0)
def jM (N : Nat) {R : Type} (x40 : UInt8) (x41 : Int) (x42 : Int) (x43 : List ((List UInt8) × UInt8)) (x44 : List (List UInt8)) (rec_ : (UInt8) -> (Int) -> (Int) -> (List ((List UInt8) × UInt8)) -> (List (List UInt8)) -> Option R) (o0 : (UInt8) -> (List ((List UInt8) × UInt8)) -> (List (List UInt8)) -> Option R) (o1 : (UInt8) -> (List ((List UInt8) × UInt8)) -> (List (List UInt8)) -> Option R) : Option R :=
 (cond (decide (x42 < x41)) (cond (inb x42 (List.length x44)) (Option.bind (qI N (nth .str x44 (Int.toNat x42))) fun y47 => (cond (!(Option.isSome (xM .str .u8 x43 y47.1))) (o0 0 x43 x44) (rec_ (x40 ||| (Option.getD (xM .str .u8 x43 y47.1) 0)) x41 (IntKind.wrap .i64 (x42 + 1)) x43 x44))) none) (o1 x40 x43 x44))
def qo (N : Nat) : Nat -> (UInt8) -> (Int) -> (Int) -> (List ((List UInt8) × UInt8)) -> (List (List UInt8)) -> Option (((UInt8) × (List ((List UInt8) × UInt8)) × (List (List UInt8))) ⊕ ((UInt8) × (List ((List UInt8) × UInt8)) × (List (List UInt8))))
 | 0, _, _, _, _, _ => none
 | m + 1, x40, x41, x42, x43, x44 => jM N x40 x41 x42 x43 x44 (qo N m) (fun v0 v1 v2 => some (Sum.inl (v0, v1, v2))) (fun v0 v1 v2 => some (Sum.inr (v0, v1, v2)))
def jg (N : Nat) (p0 : (List UInt8)) : Option (UInt8 × Bool × Unit) :=
 (Option.bind (qO N p0 [40]) fun y1 => (Option.bind (zM N y1.1 [41]) fun y2 => (cond (!y1.2.1) (some (0, false, ())) (cond (!y2.2.1) (some (0, false, ())) (cond (y2.1 == []) (some (0, true, ())) (Option.bind (zbQ N 31) fun y3 => (Option.bind (qS N N y3.1 (((List.length y3.1) : Nat) : Int) 0 []) fun o30 => (cond (Nat.ble (List.length y2.1) zf9) (Option.bind (qo N N 0 (((List.length (qE y2.1 [32])) : Nat) : Int) 0 o30 (qE y2.1 [32])) fun o52 => (zm o52 (fun a53 => (some (a53.1, false, ()))) (fun b54 => (some (b54.1, true, ()))))) none))))))))
def zO (N : Nat) (p0 : (List UInt8)) : Option (Int × Bool × Unit) :=
 (cond (p0 == [42]) (some (0, true, ())) (Option.bind (jP N p0) fun y1 => (cond y1.2.1 (some (y1.1, (y1.1 != 0), ())) (some (y1.1, false, ())))))
def wT (N : Nat) {R : Type} (x30 : Int) (x31 : Int) (x32 : List (List UInt8)) (x33 : List (Int × Int)) (rec_ : (Int) -> (Int) -> (List (List UInt8)) -> (List (Int × Int)) -> Option R) (o0 : (List (List UInt8)) -> (List (Int × Int)) -> Option R) (o1 : (List (List UInt8)) -> (List (Int × Int)) -> Option R) : Option R :=
 (cond (decide (x31 < x30)) (cond (inb x31 (List.length x32)) (cond ([58] == (nth .str x32 (Int.toNat x31))) (cond (jV 0 0 (List.length (nth .str x32 (Int.toNat x31)))) (cond (jV 1 (((List.length (nth .str x32 (Int.toNat x31))) : Nat) : Int) (List.length (nth .str x32 (Int.toNat x31)))) (Option.bind (zO N (slice (nth .str x32 (Int.toNat x31)) 0 0)) fun y42 => (Option.bind (zO N (slice (nth .str x32 (Int.toNat x31)) 1 (Int.toNat (((List.length (nth .str x32 (Int.toNat x31))) : Nat) : Int)))) fun y43 => (cond (!y42.2.1) (o0 x32 x33) (cond (!y43.2.1) (o0 x32 x33) (cond (Nat.blt ((List.length x33) + 1) jH) (rec_ x30 (IntKind.wrap .i64 (x31 + 1)) x32 (x33 ++ ([(y42.1, y43.1)] : List (Int × Int)))) none))))) none) none) (Option.bind (z8 N (nth .str x32 (Int.toNat x31)) 58) fun y44 => (cond (decide (0 <= y44.1)) (cond (jV 0 y44.1 (List.length (nth .str x32 (Int.toNat x31)))) (cond (jV (IntKind.wrap .i64 (y44.1 + 1)) (((List.length (nth .str x32 (Int.toNat x31))) : Nat) : Int) (List.length (nth .str x32 (Int.toNat x31)))) (Option.bind (zO N (slice (nth .str x32 (Int.toNat x31)) 0 (Int.toNat y44.1))) fun y45 => (Option.bind (zO N (slice (nth .str x32 (Int.toNat x31)) (Int.toNat (IntKind.wrap .i64 (y44.1 + 1))) (Int.toNat (((List.length (nth .str x32 (Int.toNat x31))) : Nat) : Int)))) fun y46 => (cond (!y45.2.1) (o0 x32 x33) (cond (!y46.2.1) (o0 x32 x33) (cond (Nat.blt ((List.length x33) + 1) jH) (rec_ x30 (IntKind.wrap .i64 (x31 + 1)) x32 (x33 ++ ([(y45.1, y46.1)] : List (Int × Int)))) none))))) none) none) (Option.bind (zO N (nth .str x32 (Int.toNat x31))) fun y47 => (Option.bind (zO N (nth .str x32 (Int.toNat x31))) fun y48 => (cond (!y47.2.1) (o0 x32 x33) (cond (!y48.2.1) (o0 x32 x33) (cond (Nat.blt ((List.length x33) + 1) jH) (rec_ x30 (IntKind.wrap .i64 (x31 + 1)) x32 (x33 ++ ([(y47.1, y48.1)] : List (Int × Int)))) none)))))))) none) (o1 x32 x33))
def zA (N : Nat) : Nat -> (Int) -> (Int) -> (List (List UInt8)) -> (List (Int × Int)) -> Option (((List (List UInt8)) × (List (Int × Int))) ⊕ ((List (List UInt8)) × (List (Int × Int))))
 | 0, _, _, _, _ => none
 | m + 1, x30, x31, x32, x33 => wT N x30 x31 x32 x33 (zA N m) (fun v0 v1 => some (Sum.inl (v0, v1))) (fun v0 v1 => some (Sum.inr (v0, v1)))
def qW (N : Nat) (p0 : (List UInt8)) : Option ((List (Int × Int)) × Bool × Unit) :=
 (cond (Nat.ble (List.length p0) zf9) (Option.bind (zA N N (((List.length (qE p0 [44])) : Nat) : Int) 0 (qE p0 [44]) []) fun o53 => (zm o53 (fun a54 => (some ([], false, ()))) (fun b55 => (some (b55.2, true, ()))))) none)
def qX (N : Nat) (p0 : (List UInt8)) : Option (Int × Bool × Unit) :=
 (Option.bind (qI N p0) fun y1 => (Option.bind (zl N ([[70, 76, 65, 71, 83], [85, 73, 68], [82, 70, 67, 56, 50, 50, 46, 83, 73, 90, 69], [66, 79, 68, 89, 46, 80, 69, 69, 75, 91, 93], [66, 79, 68, 89, 91, 93]] : List (List UInt8)) y1.1) fun y2 => (cond (decide (y2.1 < 0)) (some (0, false, ())) (cond (decide (0 <= y2.1)) (some ((IntKind.wrap .i64 (1 * (2 ^ (min (Int.toNat y2.1) (IntKind.bits .i64))))), true, ())) none))))
def wD (N : Nat) {R : Type} (x18 : List UInt8) (x19 : Int) (x20 : Int) (rec_ : (List UInt8) -> (Int) -> (Int) -> Option R) (o0 : Unit -> Option R) (o1 : Unit -> Option R) : Option R :=
 (cond (decide (x20 < x19)) (cond (inb x20 (List.length x18)) (Option.bind (zI N (nth .u8 x18 (Int.toNat x20))) fun y23 => (cond (!y23.1) (o0 ()) (rec_ x18 x19 (IntKind.wrap .i64 (x20 + 1))))) none) (o1 ()))
def zS (N : Nat) : Nat -> (List UInt8) -> (Int) -> (Int) -> Option ((Unit) ⊕ (Unit))
 | 0, _, _, _ => none
 | m + 1, x18, x19, x20 => wD N x18 x19 x20 (zS N m) (fun _ => some (Sum.inl ())) (fun _ => some (Sum.inr ()))
def qw (N : Nat) {R : Type} (x40 : List (El uS1)) (x41 : List UInt8) (x42 : Int) (x43 : List UInt8) (x44 : UInt8) (rec_ : (List (El uS1)) -> (List UInt8) -> (Int) -> (List UInt8) -> (UInt8) -> Option R) (o0 : (List (El uS1)) -> (List UInt8) -> (Int) -> (List UInt8) -> (UInt8) -> Option R) (o1 : (List (El uS1)) -> (List UInt8) -> (Int) -> (List UInt8) -> (UInt8) -> Option R) : Option R :=
 (cond (inb 0 (List.length x40)) (Option.bind (za N ([4] : List Int) (nth uS1 x40 0).1) fun y49 => (cond (!y49.1) (o0 x40 x41 x42 x43 x44) (cond (qc 1 x40 && true) (cond (decide (List.length ([40] : List UInt8) + List.length (nth uS1 x40 0).2.1 < 4611686018427387904)) (cond (decide (List.length (([40] : List UInt8) ++ (nth uS1 x40 0).2.1) + List.length ([41] : List UInt8) < 4611686018427387904)) (Option.bind (jg N ((([40] : List UInt8) ++ (nth uS1 x40 0).2.1) ++ ([41] : List UInt8))) fun y50 => (cond y50.2.1 (cond (!((nth uS1 x40 0).2.1 != ([] : List UInt8))) (o0 (ze x40 1) x41 x42 x43 x44) (cond (inb 0 (List.length (ze x40 1))) (cond ((nth uS1 (ze x40 1) 0).1 == (3 : Int)) (o1 (ze x40 1) x41 x42 x43 (x44 ||| y50.1)) (cond (inb 0 (List.length (ze x40 1))) (Option.bind (za N ([1] : List Int) (nth uS1 (ze x40 1) 0).1) fun y51 => (cond (!y51.1) (o0 (ze x40 1) x41 x42 x43 (x44 ||| y50.1)) (cond (qc 1 (ze x40 1) && true) (rec_ (ze (ze x40 1) 1) x41 x42 x43 (x44 ||| y50.1)) none))) none)) none)) (o0 (ze x40 1) x41 x42 x43 x44))) none) none) none))) none)
def zy (N : Nat) : Nat -> (List (El uS1)) -> (List UInt8) -> (Int) -> (List UInt8) -> (UInt8) -> Option (((List (El uS1)) × (List UInt8) × (Int) × (List UInt8) × (UInt8)) ⊕ ((List (El uS1)) × (List UInt8) × (Int) × (List UInt8) × (UInt8)))
 | 0, _, _, _, _, _ => none
 | m + 1, x40, x41, x42, x43, x44 => qw N x40 x41 x42 x43 x44 (zy N m) (fun v0 v1 v2 v3 v4 => some (Sum.inl (v0, v1, v2, v3, v4))) (fun v0 v1 v2 v3 v4 => some (Sum.inr (v0, v1, v2, v3, v4)))
def wy (N : Nat) {R : Type} (x75 : List UInt8) (x76 : Int) (x77 : Int) (rec_ : (List UInt8) -> (Int) -> (Int) -> Option R) (o0 : Unit -> Option R) (o1 : Unit -> Option R) : Option R :=
 (cond (decide (x77 < x76)) (cond (inb x77 (List.length x75)) (Option.bind (zI N (nth .u8 x75 (Int.toNat x77))) fun y80 => (cond (!y80.1) (o0 ()) (rec_ x75 x76 (IntKind.wrap .i64 (x77 + 1))))) none) (o1 ()))
def zR (N : Nat) : Nat -> (List UInt8) -> (Int) -> (Int) -> Option ((Unit) ⊕ (Unit))
 | 0, _, _, _ => none
 | m + 1, x75, x76, x77 => wy N x75 x76 x77 (zR N m) (fun _ => some (Sum.inl ())) (fun _ => some (Sum.inr ()))
def zat (N : Nat) {R : Type} (x94 : List (El uS1)) (x95 : List UInt8) (x96 : Int) (x97 : List UInt8) (x98 : UInt8) (rec_ : (List (El uS1)) -> (List UInt8) -> (Int) -> (List UInt8) -> (UInt8) -> Option R) (o0 : (List (El uS1)) -> (List UInt8) -> (Int) -> (List UInt8) -> (UInt8) -> Option R) (o1 : (List (El uS1)) -> (List UInt8) -> (Int) -> (List UInt8) -> (UInt8) -> Option R) : Option R :=
 (cond (inb 0 (List.length x94)) (Option.bind (za N ([4] : List Int) (nth uS1 x94 0).1) fun y103 => (cond (!y103.1) (o0 x94 x95 x96 x97 x98) (cond (qc 1 x94 && true) (cond (decide (List.length ([40] : List UInt8) + List.length (nth uS1 x94 0).2.1 < 4611686018427387904)) (cond (decide (List.length (([40] : List UInt8) ++ (nth uS1 x94 0).2.1) + List.length ([41] : List UInt8) < 4611686018427387904)) (Option.bind (jg N ((([40] : List UInt8) ++ (nth uS1 x94 0).2.1) ++ ([41] : List UInt8))) fun y104 => (cond y104.2.1 (cond (!((nth uS1 x94 0).2.1 != ([] : List UInt8))) (o0 (ze x94 1) x95 x96 x97 x98) (cond (inb 0 (List.length (ze x94 1))) (cond ((nth uS1 (ze x94 1) 0).1 == (3 : Int)) (o1 (ze x94 1) x95 x96 x97 (x98 ||| y104.1)) (cond (inb 0 (List.length (ze x94 1))) (Option.bind (za N ([1] : List Int) (nth uS1 (ze x94 1) 0).1) fun y105 => (cond (!y105.1) (o0 (ze x94 1) x95 x96 x97 (x98 ||| y104.1)) (cond (qc 1 (ze x94 1) && true) (rec_ (ze (ze x94 1) 1) x95 x96 x97 (x98 ||| y104.1)) none))) none)) none)) (o0 (ze x94 1) x95 x96 x97 x98))) none) none) none))) none)
def jq (N : Nat) : Nat -> (List (El uS1)) -> (List UInt8) -> (Int) -> (List UInt8) -> (UInt8) -> Option (((List (El uS1)) × (List UInt8) × (Int) × (List UInt8) × (UInt8)) ⊕ ((List (El uS1)) × (List UInt8) × (Int) × (List UInt8) × (UInt8)))
 | 0, _, _, _, _, _ => none
 | m + 1, x94, x95, x96, x97, x98 => zat N x94 x95 x96 x97 x98 (jq N m) (fun v0 v1 v2 v3 v4 => some (Sum.inl (v0, v1, v2, v3, v4))) (fun v0 v1 v2 v3 v4 => some (Sum.inr (v0, v1, v2, v3, v4)))
def qj (N : Nat) {R : Type} (x143 : List (El uS1)) (x144 : List UInt8) (x145 : Int) (x146 : List (Int × Int)) (x147 : Int) (x148 : UInt8) (rec_ : (List (El uS1)) -> (List UInt8) -> (Int) -> (List (Int × Int)) -> (Int) -> (UInt8) -> Option R) (o0 : (List (El uS1)) -> (List UInt8) -> (Int) -> (List (Int × Int)) -> (Int) -> (UInt8) -> Option R) (o1 : (List (El uS1)) -> (List UInt8) -> (Int) -> (List (Int × Int)) -> (Int) -> (UInt8) -> Option R) : Option R :=
 (cond (inb 0 (List.length x143)) (Option.bind (za N ([4] : List Int) (nth uS1 x143 0).1) fun y153 => (cond (!y153.1) (o0 x143 x144 x145 x146 x147 x148) (cond (qc 1 x143 && true) (Option.bind (qX N (nth uS1 x143 0).2.1) fun y154 => (cond (!y154.2.1) (o0 (ze x143 1) x144 x145 x146 x147 x148) (cond (inb 0 (List.length (ze x143 1))) (cond ((nth uS1 (ze x143 1) 0).1 == (3 : Int)) (o1 (ze x143 1) x144 x145 x146 (k9 .or .i64 x147 y154.1) x148) (cond (inb 0 (List.length (ze x143 1))) (Option.bind (za N ([1] : List Int) (nth uS1 (ze x143 1) 0).1) fun y155 => (cond (!y155.1) (o0 (ze x143 1) x144 x145 x146 (k9 .or .i64 x147 y154.1) x148) (cond (qc 1 (ze x143 1) && true) (rec_ (ze (ze x143 1) 1) x144 x145 x146 (k9 .or .i64 x147 y154.1) x148) none))) none)) none))) none))) none)
def zv (N : Nat) : Nat -> (List (El uS1)) -> (List UInt8) -> (Int) -> (List (Int × Int)) -> (Int) -> (UInt8) -> Option (((List (El uS1)) × (List UInt8) × (Int) × (List (Int × Int)) × (Int) × (UInt8)) ⊕ ((List (El uS1)) × (List UInt8) × (Int) × (List (Int × Int)) × (Int) × (UInt8)))
 | 0, _, _, _, _, _, _ => none
 | m + 1, x143, x144, x145, x146, x147, x148 => qj N x143 x144 x145 x146 x147 x148 (zv N m) (fun v0 v1 v2 v3 v4 v5 => some (Sum.inl (v0, v1, v2, v3, v4, v5))) (fun v0 v1 v2 v3 v4 v5 => some (Sum.inr (v0, v1, v2, v3, v4, v5)))
def qg (N : Nat) {R : Type} (x179 : List (El uS1)) (x180 : List UInt8) (x181 : Int) (x182 : List (Int × Int)) (x183 : Int) (x184 : Bool) (x185 : UInt8) (rec_ : (List (El uS1)) -> (List UInt8) -> (Int) -> (List (Int × Int)) -> (Int) -> (Bool) -> (UInt8) -> Option R) (o0 : (List (El uS1)) -> (List UInt8) -> (Int) -> (List (Int × Int)) -> (Int) -> (Bool) -> (UInt8) -> Option R) (o1 : (List (El uS1)) -> (List UInt8) -> (Int) -> (List (Int × Int)) -> (Int) -> (Bool) -> (UInt8) -> Option R) : Option R :=
 (cond (inb 0 (List.length x179)) (Option.bind (za N ([4] : List Int) (nth uS1 x179 0).1) fun y190 => (cond (!y190.1) (o0 x179 x180 x181 x182 x183 x184 x185) (cond (qc 1 x179 && true) (cond (decide (List.length ([40] : List UInt8) + List.length (nth uS1 x179 0).2.1 < 4611686018427387904)) (cond (decide (List.length (([40] : List UInt8) ++ (nth uS1 x179 0).2.1) + List.length ([41] : List UInt8) < 4611686018427387904)) (Option.bind (jg N ((([40] : List UInt8) ++ (nth uS1 x179 0).2.1) ++ ([41] : List UInt8))) fun y191 => (cond y191.2.1 (cond (!((nth uS1 x179 0).2.1 != ([] : List UInt8))) (o0 (ze x179 1) x180 x181 x182 x183 x184 x185) (cond (inb 0 (List.length (ze x179 1))) (cond ((nth uS1 (ze x179 1) 0).1 == (3 : Int)) (o1 (ze x179 1) x180 x181 x182 x183 x184 (x185 ||| y191.1)) (cond (inb 0 (List.length (ze x179 1))) (Option.bind (za N ([1] : List Int) (nth uS1 (ze x179 1) 0).1) fun y192 => (cond (!y192.1) (o0 (ze x179 1) x180 x181 x182 x183 x184 (x185 ||| y191.1)) (cond (qc 1 (ze x179 1) && true) (rec_ (ze (ze x179 1) 1) x180 x181 x182 x183 x184 (x185 ||| y191.1)) none))) none)) none)) (o0 (ze x179 1) x180 x181 x182 x183 x184 x185))) none) none) none))) none)
def zt (N : Nat) : Nat -> (List (El uS1)) -> (List UInt8) -> (Int) -> (List (Int × Int)) -> (Int) -> (Bool) -> (UInt8) -> Option (((List (El uS1)) × (List UInt8) × (Int) × (List (Int × Int)) × (Int) × (Bool) × (UInt8)) ⊕ ((List (El uS1)) × (List UInt8) × (Int) × (List (Int × Int)) × (Int) × (Bool) × (UInt8)))
 | 0, _, _, _, _, _, _, _ => none
 | m + 1, x179, x180, x181, x182, x183, x184, x185 => qg N x179 x180 x181 x182 x183 x184 x185 (zt N m) (fun v0 v1 v2 v3 v4 v5 v6 => some (Sum.inl (v0, v1, v2, v3, v4, v5, v6))) (fun v0 v1 v2 v3 v4 v5 v6 => some (Sum.inr (v0, v1, v2, v3, v4, v5, v6)))
def qh (N : Nat) {R : Type} (x208 : List (El uS1)) (x209 : List UInt8) (x210 : Int) (x211 : List (Int × Int)) (x212 : Int) (x213 : Bool) (x214 : UInt8) (rec_ : (List (El uS1)) -> (List UInt8) -> (Int) -> (List (Int × Int)) -> (Int) -> (Bool) -> (UInt8) -> Option R) (o0 : (List (El uS1)) -> (List UInt8) -> (Int) -> (List (Int × Int)) -> (Int) -> (Bool) -> (UInt8) -> Option R) (o1 : (List (El uS1)) -> (List UInt8) -> (Int) -> (List (Int × Int)) -> (Int) -> (Bool) -> (UInt8) -> Option R) : Option R :=
 (cond (inb 0 (List.length x208)) (Option.bind (za N ([4] : List Int) (nth uS1 x208 0).1) fun y219 => (cond (!y219.1) (o0 x208 x209 x210 x211 x212 x213 x214) (cond (qc 1 x208 && true) (cond (decide (List.length ([40] : List UInt8) + List.length (nth uS1 x208 0).2.1 < 4611686018427387904)) (cond (decide (List.length (([40] : List UInt8) ++ (nth uS1 x208 0).2.1) + List.length ([41] : List UInt8) < 4611686018427387904)) (Option.bind (jg N ((([40] : List UInt8) ++ (nth uS1 x208 0).2.1) ++ ([41] : List UInt8))) fun y220 => (cond y220.2.1 (cond (!((nth uS1 x208 0).2.1 != ([] : List UInt8))) (o0 (ze x208 1) x209 x210 x211 x212 x213 x214) (cond (inb 0 (List.length (ze x208 1))) (cond ((nth uS1 (ze x208 1) 0).1 == (0 : Int)) (o1 (ze x208 1) x209 x210 x211 x212 x213 (x214 ||| y220.1)) (cond (inb 0 (List.length (ze x208 1))) (Option.bind (za N ([1] : List Int) (nth uS1 (ze x208 1) 0).1) fun y221 => (cond (!y221.1) (o0 (ze x208 1) x209 x210 x211 x212 x213 (x214 ||| y220.1)) (cond (qc 1 (ze x208 1) && true) (rec_ (ze (ze x208 1) 1) x209 x210 x211 x212 x213 (x214 ||| y220.1)) none))) none)) none)) (o0 (ze x208 1) x209 x210 x211 x212 x213 x214))) none) none) none))) none)
def zz (N : Nat) : Nat -> (List (El uS1)) -> (List UInt8) -> (Int) -> (List (Int × Int)) -> (Int) -> (Bool) -> (UInt8) -> Option (((List (El uS1)) × (List UInt8) × (Int) × (List (Int × Int)) × (Int) × (Bool) × (UInt8)) ⊕ ((List (El uS1)) × (List UInt8) × (Int) × (List (Int × Int)) × (Int) × (Bool) × (UInt8)))
 | 0, _, _, _, _, _, _, _ => none
 | m + 1, x208, x209, x210, x211, x212, x213, x214 => qh N x208 x209 x210 x211 x212 x213 x214 (zz N m) (fun v0 v1 v2 v3 v4 v5 v6 => some (Sum.inl (v0, v1, v2, v3, v4, v5, v6))) (fun v0 v1 v2 v3 v4 v5 v6 => some (Sum.inr (v0, v1, v2, v3, v4, v5, v6)))
def B1 (N : Nat) (tag : List UInt8) (kd : Int) (l : List (El uS1)) : Option ((El uS2) × Bool × Unit) :=
 (cond (inb (0 : Int) (List.length l)) (Option.bind (za N ([(0 : Int)] : List Int) (nth uS1 l 0).1) fun y5 => (cond (!y5.1) (some ((tag, ((0 : Int), (([] : List UInt8), (([] : List (Int × Int)), ((0 : Int), ((0 : Int), (false, ((0 : UInt8), ([] : List UInt8))))))))), false, ())) (cond (qc (1 : Int) l && true) (some ((tag, (kd, (([] : List UInt8), (([] : List (Int × Int)), ((0 : Int), ((0 : Int), (false, ((0 : UInt8), ([] : List UInt8))))))))), true, ())) none))) none)
def E5 (N : Nat) (tag : List UInt8) (kd : Int) (mb : List UInt8) (q : List (El uS1)) : Option ((El uS2) × Bool × Unit) :=
 (cond (inb (0 : Int) (List.length q)) (Option.bind (za N ([(0 : Int)] : List Int) (nth uS1 q 0).1) fun y11 => (cond (!y11.1) (some ((tag, ((0 : Int), (([] : List UInt8), (([] : List (Int × Int)), ((0 : Int), ((0 : Int), (false, ((0 : UInt8), ([] : List UInt8))))))))), false, ())) (cond (qc (1 : Int) q && true) (some ((tag, (kd, (mb, (([] : List (Int × Int)), ((0 : Int), ((0 : Int), (false, ((0 : UInt8), ([] : List UInt8))))))))), true, ())) none))) none)
def B5 (N : Nat) (tag : List UInt8) (kd : Int) (l : List (El uS1)) : Option ((El uS2) × Bool × Unit) :=
 (cond (inb (0 : Int) (List.length l)) (Option.bind (za N ([(1 : Int)] : List Int) (nth uS1 l 0).1) fun y9 => (cond (!y9.1) (some ((tag, ((0 : Int), (([] : List UInt8), (([] : List (Int × Int)), ((0 : Int), ((0 : Int), (false, ((0 : UInt8), ([] : List UInt8))))))))), false, ())) (cond (qc (1 : Int) l && true) (cond (inb (0 : Int) (List.length (ze l 1))) (cond (inb (0 : Int) (List.length (ze l 1))) (Option.bind (za N ([(4 : Int), (5 : Int), (6 : Int)] : List Int) (nth uS1 (ze l 1) 0).1) fun y10 => (cond (!y10.1) (some ((tag, ((0 : Int), (([] : List UInt8), (([] : List (Int × Int)), ((0 : Int), ((0 : Int), (false, ((0 : UInt8), ([] : List UInt8))))))))), false, ())) (cond (qc (1 : Int) (ze l 1) && true) (cond ((nth uS1 (ze l 1) 0).1 != (4 : Int)) (E5 N tag kd (nth uS1 (ze l 1) 0).2.1 (ze (ze l 1) 1)) (cond ((nth uS1 (ze l 1) 0).2.1 != ([] : List UInt8)) (Option.bind (zS N N (nth uS1 (ze l 1) 0).2.1 (((List.length (nth uS1 (ze l 1) 0).2.1) : Nat) : Int) (0 : Int)) fun o26 => (zm o26 (fun a27 => (some ((tag, ((0 : Int), (([] : List UInt8), (([] : List (Int × Int)), ((0 : Int), ((0 : Int), (false, ((0 : UInt8), ([] : List UInt8))))))))), false, ()))) (fun b28 => (E5 N tag kd (nth uS1 (ze l 1) 0).2.1 (ze (ze l 1) 1))))) (some ((tag, ((0 : Int), (([] : List UInt8), (([] : List (Int × Int)), ((0 : Int), ((0 : Int), (false, ((0 : UInt8), ([] : List UInt8))))))))), false, ())))) none))) none) none) none))) none)
def G6 (N : Nat) (tag : List UInt8) (tag1 : List UInt8) (kd1 : Int) (mb1 : List UInt8) (f : UInt8) (l : List (El uS1)) : Option ((El uS2) × Bool × Unit) :=
 (cond (inb (0 : Int) (List.length l)) (Option.bind (za N ([(3 : Int)] : List Int) (nth uS1 l 0).1) fun y55 => (cond (!y55.1) (some ((tag, ((0 : Int), (([] : List UInt8), (([] : List (Int × Int)), ((0 : Int), ((0 : Int), (false, ((0 : UInt8), ([] : List UInt8))))))))), false, ())) (cond (qc (1 : Int) l && true) (cond (inb (0 : Int) (List.length (ze l 1))) (Option.bind (za N ([(1 : Int)] : List Int) (nth uS1 (ze l 1) 0).1) fun y56 => (cond (!y56.1) (some ((tag, ((0 : Int), (([] : List UInt8), (([] : List (Int × Int)), ((0 : Int), ((0 : Int), (false, ((0 : UInt8), ([] : List UInt8))))))))), false, ())) (cond (qc (1 : Int) (ze l 1) && true) (cond (inb (0 : Int) (List.length (ze (ze l 1) 1))) (Option.bind (za N ([(6 : Int)] : List Int) (nth uS1 (ze (ze l 1) 1) 0).1) fun y57 => (cond (!y57.1) (some ((tag, ((0 : Int), (([] : List UInt8), (([] : List (Int × Int)), ((0 : Int), ((0 : Int), (false, ((0 : UInt8), ([] : List UInt8))))))))), false, ())) (cond (qc (1 : Int) (ze (ze l 1) 1) && true) (cond (Nat.blt (List.length (nth uS1 (ze (ze l 1) 1) 0).2.1) jH) (cond (inb (0 : Int) (List.length (ze (ze (ze l 1) 1) 1))) (Option.bind (za N ([(0 : Int)] : List Int) (nth uS1 (ze (ze (ze l 1) 1) 1) 0).1) fun y58 => (cond (!y58.1) (some ((tag, ((0 : Int), (([] : List UInt8), (([] : List (Int × Int)), ((0 : Int), ((0 : Int), (false, ((0 : UInt8), ([] : List UInt8))))))))), false, ())) (cond (qc (1 : Int) (ze (ze (ze l 1) 1) 1) && true) (some ((tag1, (kd1, (mb1, (([] : List (Int × Int)), ((0 : Int), ((0 : Int), (false, (f, (nth uS1 (ze (ze l 1) 1) 0).2.1)))))))), true, ())) none))) none) none) none))) none) none))) none) none))) none)
def D6 (N : Nat) (tag : List UInt8) (kd : Int) (mb : List UInt8) (r : List (El uS1)) : Option ((El uS2) × Bool × Unit) :=
 (cond (inb (0 : Int) (List.length r)) (cond ((nth uS1 r 0).1 == (2 : Int)) (cond (inb (0 : Int) (List.length r)) (Option.bind (za N ([(2 : Int)] : List Int) (nth uS1 r 0).1) fun y33 => (cond (!y33.1) (some ((tag, ((0 : Int), (([] : List UInt8), (([] : List (Int × Int)), ((0 : Int), ((0 : Int), (false, ((0 : UInt8), ([] : List UInt8))))))))), false, ())) (cond (qc (1 : Int) r && true) (cond (inb (0 : Int) (List.length (ze r 1))) (cond ((nth uS1 (ze r 1) 0).1 != (3 : Int)) (Option.bind (zy N N (ze r 1) tag kd mb (0 : UInt8)) fun o52 => (zm o52 (fun a53 => (some ((tag, ((0 : Int), (([] : List UInt8), (([] : List (Int × Int)), ((0 : Int), ((0 : Int), (false, ((0 : UInt8), ([] : List UInt8))))))))), false, ()))) (fun b54 => (G6 N tag b54.2.1 b54.2.2.1 b54.2.2.2.1 b54.2.2.2.2 b54.1)))) (G6 N tag tag kd mb (0 : UInt8) (ze r 1))) none) none))) none) (cond (inb (0 : Int) (List.length r)) (Option.bind (za N ([(6 : Int)] : List Int) (nth uS1 r 0).1) fun y63 => (cond (!y63.1) (some ((tag, ((0 : Int), (([] : List UInt8), (([] : List (Int × Int)), ((0 : Int), ((0 : Int), (false, ((0 : UInt8), ([] : List UInt8))))))))), false, ())) (cond (qc (1 : Int) r && true) (cond (Nat.blt (List.length (nth uS1 r 0).2.1) jH) (cond (inb (0 : Int) (List.length (ze r 1))) (Option.bind (za N ([(0 : Int)] : List Int) (nth uS1 (ze r 1) 0).1) fun y64 => (cond (!y64.1) (some ((tag, ((0 : Int), (([] : List UInt8), (([] : List (Int × Int)), ((0 : Int), ((0 : Int), (false, ((0 : UInt8), ([] : List UInt8))))))))), false, ())) (cond (qc (1 : Int) (ze r 1) && true) (some ((tag, (kd, (mb, (([] : List (Int × Int)), ((0 : Int), ((0 : Int), (false, ((0 : UInt8), (nth uS1 r 0).2.1)))))))), true, ())) none))) none) none) none))) none)) none)
def C6 (N : Nat) (tag : List UInt8) (kd : Int) (mb : List UInt8) (q : List (El uS1)) : Option ((El uS2) × Bool × Unit) :=
 (cond (inb (0 : Int) (List.length q)) (Option.bind (za N ([(1 : Int)] : List Int) (nth uS1 q 0).1) fun y32 => (cond (!y32.1) (some ((tag, ((0 : Int), (([] : List UInt8), (([] : List (Int × Int)), ((0 : Int), ((0 : Int), (false, ((0 : UInt8), ([] : List UInt8))))))))), false, ())) (cond (qc (1 : Int) q && true) (D6 N tag kd mb (ze q 1)) none))) none)
def B6 (N : Nat) (tag : List UInt8) (kd : Int) (l : List (El uS1)) : Option ((El uS2) × Bool × Unit) :=
 (cond (inb (0 : Int) (List.length l)) (Option.bind (za N ([(1 : Int)] : List Int) (nth uS1 l 0).1) fun y30 => (cond (!y30.1) (some ((tag, ((0 : Int), (([] : List UInt8), (([] : List (Int × Int)), ((0 : Int), ((0 : Int), (false, ((0 : UInt8), ([] : List UInt8))))))))), false, ())) (cond (qc (1 : Int) l && true) (cond (inb (0 : Int) (List.length (ze l 1))) (cond (inb (0 : Int) (List.length (ze l 1))) (Option.bind (za N ([(4 : Int), (5 : Int), (6 : Int)] : List Int) (nth uS1 (ze l 1) 0).1) fun y31 => (cond (!y31.1) (some ((tag, ((0 : Int), (([] : List UInt8), (([] : List (Int × Int)), ((0 : Int), ((0 : Int), (false, ((0 : UInt8), ([] : List UInt8))))))))), false, ())) (cond (qc (1 : Int) (ze l 1) && true) (cond ((nth uS1 (ze l 1) 0).1 != (4 : Int)) (C6 N tag kd (nth uS1 (ze l 1) 0).2.1 (ze (ze l 1) 1)) (cond ((nth uS1 (ze l 1) 0).2.1 != ([] : List UInt8)) (Option.bind (zR N N (nth uS1 (ze l 1) 0).2.1 (((List.length (nth uS1 (ze l 1) 0).2.1) : Nat) : Int) (0 : Int)) fun o79 => (zm o79 (fun a80 => (some ((tag, ((0 : Int), (([] : List UInt8), (([] : List (Int × Int)), ((0 : Int), ((0 : Int), (false, ((0 : UInt8), ([] : List UInt8))))))))), false, ()))) (fun b81 => (C6 N tag kd (nth uS1 (ze l 1) 0).2.1 (ze (ze l 1) 1))))) (some ((tag, ((0 : Int), (([] : List UInt8), (([] : List (Int × Int)), ((0 : Int), ((0 : Int), (false, ((0 : UInt8), ([] : List UInt8))))))))), false, ())))) none))) none) none) none))) none)
def D7 (N : Nat) (tag : List UInt8) (kd : Int) (st : List (Int × Int)) (r : List (El uS1)) : Option ((El uS2) × Bool × Unit) :=
 (cond (inb (0 : Int) (List.length r)) (cond ((nth uS1 r 0).1 != (2 : Int)) (cond (inb (0 : Int) (List.length r)) (Option.bind (za N ([(4 : Int)] : List Int) (nth uS1 r 0).1) fun y119 => (cond (!y119.1) (some ((tag, ((0 : Int), (([] : List UInt8), (([] : List (Int × Int)), ((0 : Int), ((0 : Int), (false, ((0 : UInt8), ([] : List UInt8))))))))), false, ())) (cond (qc (1 : Int) r && true) (Option.bind (qX N (nth uS1 r 0).2.1) fun y120 => (cond (!y120.2.1) (some ((tag, ((0 : Int), (([] : List UInt8), (([] : List (Int × Int)), ((0 : Int), ((0 : Int), (false, ((0 : UInt8), ([] : List UInt8))))))))), false, ())) (cond (inb (0 : Int) (List.length (ze r 1))) (Option.bind (za N ([(0 : Int)] : List Int) (nth uS1 (ze r 1) 0).1) fun y121 => (cond (!y121.1) (some ((tag, ((0 : Int), (([] : List UInt8), (([] : List (Int × Int)), ((0 : Int), ((0 : Int), (false, ((0 : UInt8), ([] : List UInt8))))))))), false, ())) (cond (qc (1 : Int) (ze r 1) && true) (some ((tag, (kd, (([] : List UInt8), (st, ((k9 .or .i64 (0 : Int) y120.1), ((0 : Int), (false, ((0 : UInt8), ([] : List UInt8))))))))), true, ())) none))) none))) none))) none) (cond (inb (0 : Int) (List.length r)) (Option.bind (za N ([(2 : Int)] : List Int) (nth uS1 r 0).1) fun y122 => (cond (!y122.1) (some ((tag, ((0 : Int), (([] : List UInt8), (([] : List (Int × Int)), ((0 : Int), ((0 : Int), (false, ((0 : UInt8), ([] : List UInt8))))))))), false, ())) (cond (qc (1 : Int) r && true) (Option.bind (zv N N (ze r 1) tag kd st (0 : Int) (0 : UInt8)) fun o150 => (zm o150 (fun a151 => (some ((tag, ((0 : Int), (([] : List UInt8), (([] : List (Int × Int)), ((0 : Int), ((0 : Int), (false, ((0 : UInt8), ([] : List UInt8))))))))), false, ()))) (fun b152 => (cond (inb (0 : Int) (List.length b152.1)) (Option.bind (za N ([(3 : Int)] : List Int) (nth uS1 b152.1 0).1) fun y153 => (cond (!y153.1) (some ((tag, ((0 : Int), (([] : List UInt8), (([] : List (Int × Int)), ((0 : Int), ((0 : Int), (false, ((0 : UInt8), ([] : List UInt8))))))))), false, ())) (cond (qc (1 : Int) b152.1 && true) (cond (inb (0 : Int) (List.length (ze b152.1 1))) (Option.bind (za N ([(0 : Int)] : List Int) (nth uS1 (ze b152.1 1) 0).1) fun y154 => (cond (!y154.1) (some ((tag, ((0 : Int), (([] : List UInt8), (([] : List (Int × Int)), ((0 : Int), ((0 : Int), (false, ((0 : UInt8), ([] : List UInt8))))))))), false, ())) (cond (qc (1 : Int) (ze b152.1 1) && true) (some ((b152.2.1, (b152.2.2.1, (([] : List UInt8), (b152.2.2.2.1, (b152.2.2.2.2.1, ((0 : Int), (false, (b152.2.2.2.2.2, ([] : List UInt8))))))))), true, ())) none))) none) none))) none)))) none))) none)) none)
def B7 (N : Nat) (tag : List UInt8) (kd : Int) (l : List (El uS1)) : Option ((El uS2) × Bool × Unit) :=
 (cond (inb (0 : Int) (List.length l)) (Option.bind (za N ([(1 : Int)] : List Int) (nth uS1 l 0).1) fun y115 => (cond (!y115.1) (some ((tag, ((0 : Int), (([] : List UInt8), (([] : List (Int × Int)), ((0 : Int), ((0 : Int), (false, ((0 : UInt8), ([] : List UInt8))))))))), false, ())) (cond (qc (1 : Int) l && true) (cond (inb (0 : Int) (List.length (ze l 1))) (Option.bind (za N ([(4 : Int)] : List Int) (nth uS1 (ze l 1) 0).1) fun y116 => (cond (!y116.1) (some ((tag, ((0 : Int), (([] : List UInt8), (([] : List (Int × Int)), ((0 : Int), ((0 : Int), (false, ((0 : UInt8), ([] : List UInt8))))))))), false, ())) (cond (qc (1 : Int) (ze l 1) && true) (Option.bind (qW N (nth uS1 (ze l 1) 0).2.1) fun y117 => (cond (!y117.2.1) (some ((tag, ((0 : Int), (([] : List UInt8), (([] : List (Int × Int)), ((0 : Int), ((0 : Int), (false, ((0 : UInt8), ([] : List UInt8))))))))), false, ())) (cond (inb (0 : Int) (List.length (ze (ze l 1) 1))) (Option.bind (za N ([(1 : Int)] : List Int) (nth uS1 (ze (ze l 1) 1) 0).1) fun y118 => (cond (!y118.1) (some ((tag, ((0 : Int), (([] : List UInt8), (([] : List (Int × Int)), ((0 : Int), ((0 : Int), (false, ((0 : UInt8), ([] : List UInt8))))))))), false, ())) (cond (qc (1 : Int) (ze (ze l 1) 1) && true) (D7 N tag kd y117.1 (ze (ze (ze l 1) 1) 1)) none))) none))) none))) none) none))) none)
def G8 (N : Nat) (tag : List UInt8) (tag1 : List UInt8) (kd1 : Int) (st1 : List (Int × Int)) (md1 : Int) (sl1 : Bool) (f : UInt8) (l : List (El uS1)) : Option ((El uS2) × Bool × Unit) :=
 (cond (inb (0 : Int) (List.length l)) (Option.bind (za N ([(3 : Int)] : List Int) (nth uS1 l 0).1) fun y188 => (cond (!y188.1) (some ((tag, ((0 : Int), (([] : List UInt8), (([] : List (Int × Int)), ((0 : Int), ((0 : Int), (false, ((0 : UInt8), ([] : List UInt8))))))))), false, ())) (cond (qc (1 : Int) l && true) (cond (inb (0 : Int) (List.length (ze l 1))) (Option.bind (za N ([(0 : Int)] : List Int) (nth uS1 (ze l 1) 0).1) fun y189 => (cond (!y189.1) (some ((tag, ((0 : Int), (([] : List UInt8), (([] : List (Int × Int)), ((0 : Int), ((0 : Int), (false, ((0 : UInt8), ([] : List UInt8))))))))), false, ())) (cond (qc (1 : Int) (ze l 1) && true) (some ((tag1, (kd1, (([] : List UInt8), (st1, ((0 : Int), (md1, (sl1, (f, ([] : List UInt8))))))))), true, ())) none))) none) none))) none)
def D8 (N : Nat) (tag : List UInt8) (kd : Int) (st : List (Int × Int)) (md : Int) (sl : Bool) (r : List (El uS1)) : Option ((El uS2) × Bool × Unit) :=
 (cond (inb (0 : Int) (List.length r)) (cond ((nth uS1 r 0).1 == (2 : Int)) (cond (inb (0 : Int) (List.length r)) (Option.bind (za N ([(2 : Int)] : List Int) (nth uS1 r 0).1) fun y164 => (cond (!y164.1) (some ((tag, ((0 : Int), (([] : List UInt8), (([] : List (Int × Int)), ((0 : Int), ((0 : Int), (false, ((0 : UInt8), ([] : List UInt8))))))))), false, ())) (cond (qc (1 : Int) r && true) (cond (inb (0 : Int) (List.length (ze r 1))) (cond ((nth uS1 (ze r 1) 0).1 != (3 : Int)) (Option.bind (zt N N (ze r 1) tag kd st md sl (0 : UInt8)) fun o185 => (zm o185 (fun a186 => (some ((tag, ((0 : Int), (([] : List UInt8), (([] : List (Int × Int)), ((0 : Int), ((0 : Int), (false, ((0 : UInt8), ([] : List UInt8))))))))), false, ()))) (fun b187 => (G8 N tag b187.2.1 b187.2.2.1 b187.2.2.2.1 b187.2.2.2.2.1 b187.2.2.2.2.2.1 b187.2.2.2.2.2.2 b187.1)))) (G8 N tag tag kd st md sl (0 : UInt8) (ze r 1))) none) none))) none) (Option.bind (zz N N r tag kd st md sl (0 : UInt8)) fun o212 => (zm o212 (fun a213 => (some ((tag, ((0 : Int), (([] : List UInt8), (([] : List (Int × Int)), ((0 : Int), ((0 : Int), (false, ((0 : UInt8), ([] : List UInt8))))))))), false, ()))) (fun b214 => (cond (inb (0 : Int) (List.length b214.1)) (Option.bind (za N ([(0 : Int)] : List Int) (nth uS1 b214.1 0).1) fun y215 => (cond (!y215.1) (some ((tag, ((0 : Int), (([] : List UInt8), (([] : List (Int × Int)), ((0 : Int), ((0 : Int), (false, ((0 : UInt8), ([] : List UInt8))))))))), false, ())) (cond (qc (1 : Int) b214.1 && true) (some ((b214.2.1, (b214.2.2.1, (([] : List UInt8), (b214.2.2.2.1, ((0 : Int), (b214.2.2.2.2.1, (b214.2.2.2.2.2.1, (b214.2.2.2.2.2.2, ([] : List UInt8))))))))), true, ())) none))) none))))) none)
def B8 (N : Nat) (tag : List UInt8) (kd : Int) (l : List (El uS1)) : Option ((El uS2) × Bool × Unit) :=
 (cond (inb (0 : Int) (List.length l)) (Option.bind (za N ([(1 : Int)] : List Int) (nth uS1 l 0).1) fun y155 => (cond (!y155.1) (some ((tag, ((0 : Int), (([] : List UInt8), (([] : List (Int × Int)), ((0 : Int), ((0 : Int), (false, ((0 : UInt8), ([] : List UInt8))))))))), false, ())) (cond (qc (1 : Int) l && true) (cond (inb (0 : Int) (List.length (ze l 1))) (Option.bind (za N ([(4 : Int)] : List Int) (nth uS1 (ze l 1) 0).1) fun y156 => (cond (!y156.1) (some ((tag, ((0 : Int), (([] : List UInt8), (([] : List (Int × Int)), ((0 : Int), ((0 : Int), (false, ((0 : UInt8), ([] : List UInt8))))))))), false, ())) (cond (qc (1 : Int) (ze l 1) && true) (Option.bind (qW N (nth uS1 (ze l 1) 0).2.1) fun y157 => (cond (!y157.2.1) (some ((tag, ((0 : Int), (([] : List UInt8), (([] : List (Int × Int)), ((0 : Int), ((0 : Int), (false, ((0 : UInt8), ([] : List UInt8))))))))), false, ())) (cond (inb (0 : Int) (List.length (ze (ze l 1) 1))) (Option.bind (za N ([(1 : Int)] : List Int) (nth uS1 (ze (ze l 1) 1) 0).1) fun y158 => (cond (!y158.1) (some ((tag, ((0 : Int), (([] : List UInt8), (([] : List (Int × Int)), ((0 : Int), ((0 : Int), (false, ((0 : UInt8), ([] : List UInt8))))))))), false, ())) (cond (qc (1 : Int) (ze (ze l 1) 1) && true) (cond (inb (0 : Int) (List.length (ze (ze (ze l 1) 1) 1))) (Option.bind (za N ([(4 : Int)] : List Int) (nth uS1 (ze (ze (ze l 1) 1) 1) 0).1) fun y159 => (cond (!y159.1) (some ((tag, ((0 : Int), (([] : List UInt8), (([] : List (Int × Int)), ((0 : Int), ((0 : Int), (false, ((0 : UInt8), ([] : List UInt8))))))))), false, ())) (cond (qc (1 : Int) (ze (ze (ze l 1) 1) 1) && true) (Option.bind (qI N (nth uS1 (ze (ze (ze l 1) 1) 1) 0).2.1) fun y160 => (Option.bind (zM N y160.1 ([46, 83, 73, 76, 69, 78, 84] : List UInt8)) fun y161 => (Option.bind (zl N ([([70, 76, 65, 71, 83] : List UInt8), ([43, 70, 76, 65, 71, 83] : List UInt8), ([45, 70, 76, 65, 71, 83] : List UInt8)] : List (List UInt8)) y161.1) fun y162 => (cond (!(decide ((0 : Int) <= y162.1))) (some ((tag, ((0 : Int), (([] : List UInt8), (([] : List (Int × Int)), ((0 : Int), ((0 : Int), (false, ((0 : UInt8), ([] : List UInt8))))))))), false, ())) (cond (inb (0 : Int) (List.length (ze (ze (ze (ze l 1) 1) 1) 1))) (Option.bind (za N ([(1 : Int)] : List Int) (nth uS1 (ze (ze (ze (ze l 1) 1) 1) 1) 0).1) fun y163 => (cond (!y163.1) (some ((tag, ((0 : Int), (([] : List UInt8), (([] : List (Int × Int)), ((0 : Int), ((0 : Int), (false, ((0 : UInt8), ([] : List UInt8))))))))), false, ())) (cond (qc (1 : Int) (ze (ze (ze (ze l 1) 1) 1) 1) && true) (D8 N tag kd y157.1 y162.1 y161.2.1 (ze (ze (ze (ze (ze l 1) 1) 1) 1) 1)) none))) none))))) none))) none) none))) none))) none))) none) none))) none)
def jL (N : Nat) (p0 : (List UInt8)) : Option ((El uS2) × Bool × Unit) :=
 (Option.bind (zad N p0) fun y1 => (cond (!y1.2.2.1) (some ((y1.1, ((0 : Int), (([] : List UInt8), (([] : List (Int × Int)), ((0 : Int), ((0 : Int), (false, ((0 : UInt8), ([] : List UInt8))))))))), false, ())) (cond (qc y1.2.1 p0 && true) (Option.bind (wh N (ze p0 (Int.toNat y1.2.1))) fun y2 => (cond (!(decide (y2.2.1 < (0 : Int)))) (some ((y1.1, ((0 : Int), (([] : List UInt8), (([] : List (Int × Int)), ((0 : Int), ((0 : Int), (false, ((0 : UInt8), ([] : List UInt8))))))))), false, ())) (cond (inb (0 : Int) (List.length y2.1)) (Option.bind (za N ([(4 : Int)] : List Int) (nth uS1 y2.1 0).1) fun y3 => (cond (!y3.1) (some ((y1.1, ((0 : Int), (([] : List UInt8), (([] : List (Int × Int)), ((0 : Int), ((0 : Int), (false, ((0 : UInt8), ([] : List UInt8))))))))), false, ())) (cond (qc (1 : Int) y2.1 && true) (Option.bind (jt N (nth uS1 y2.1 0).2.1) fun y4 => (cond (!y4.2.1) (some ((y1.1, ((0 : Int), (([] : List UInt8), (([] : List (Int × Int)), ((0 : Int), ((0 : Int), (false, ((0 : UInt8), ([] : List UInt8))))))))), false, ())) (cond (y4.1 == (1 : Int)) (B1 N y1.1 y4.1 (ze y2.1 1)) (cond (y4.1 == (2 : Int)) (B1 N y1.1 y4.1 (ze y2.1 1)) (cond (y4.1 == (3 : Int)) (B1 N y1.1 y4.1 (ze y2.1 1)) (cond (y4.1 == (4 : Int)) (B1 N y1.1 y4.1 (ze y2.1 1)) (cond (y4.1 == (5 : Int)) (B5 N y1.1 y4.1 (ze y2.1 1)) (cond (y4.1 == (6 : Int)) (B6 N y1.1 y4.1 (ze y2.1 1)) (cond (y4.1 == (7 : Int)) (B7 N y1.1 y4.1 (ze y2.1 1)) (cond (y4.1 == (8 : Int)) (B8 N y1.1 y4.1 (ze y2.1 1)) none)))))))))) none))) none))) none)))
def za3 (N : Nat) (p0 : UInt8) : Option (Bool × Unit) :=
 (cond (p0 == 40) (cond (p0 == 40) (some (false, ())) (cond (decide (32 < p0)) (some ((decide (p0 < 127)), ())) (some (false, ())))) (cond (p0 == 41) (cond (p0 == 41) (some (false, ())) (cond (decide (32 < p0)) (some ((decide (p0 < 127)), ())) (some (false, ())))) (cond (p0 == 123) (cond (p0 == 123) (some (false, ())) (cond (decide (32 < p0)) (some ((decide (p0 < 127)), ())) (some (false, ())))) (cond (p0 == 37) (cond (p0 == 37) (some (false, ())) (cond (decide (32 < p0)) (some ((decide (p0 < 127)), ())) (some (false, ())))) (cond (p0 == 42) (cond (p0 == 42) (some (false, ())) (cond (decide (32 < p0)) (some ((decide (p0 < 127)), ())) (some (false, ())))) (cond (p0 == 34) (cond (p0 == 34) (some (false, ())) (cond (decide (32 < p0)) (some ((decide (p0 < 127)), ())) (some (false, ())))) (cond (p0 == 92) (cond (p0 == 92) (some (false, ())) (cond (decide (32 < p0)) (some ((decide (p0 < 127)), ())) (some (false, ())))) (cond (p0 == 93) (some (false, ())) (cond (decide (32 < p0)) (some ((decide (p0 < 127)), ())) (some (false, ())))))))))))
def kC (N : Nat) (p0 : UInt8) : Option (Bool × Unit) :=
 (Option.bind (za3 N p0) fun y1 => (cond y1.1 (cond (p0 != 43) (some (true, ())) (some ((p0 == 93), ()))) (some ((p0 == 93), ()))))
def zgP (N : Nat) (p0 : UInt8) : Option (Bool × Unit) :=
 (cond (decide (0 < p0)) (cond (decide (p0 < 128)) (cond (p0 != 10) (some ((p0 != 13), ())) (some (false, ()))) (some (false, ()))) (some (false, ())))
def zdJ (N : Nat) (p0 : UInt8) : Option (Bool × Unit) :=
 (cond (decide (32 < p0)) (cond (decide (p0 < 127)) (cond (p0 != 40) (cond (p0 != 41) (cond (p0 != 34) (some ((p0 != 123), ())) (some (false, ()))) (some (false, ()))) (some (false, ()))) (some (false, ()))) (some (false, ())))
def zhJ (N : Nat) (p0 : Int) : Option ((List UInt8) × Unit) :=
 (cond (decide (p0 < 1)) (some ([], ())) (cond (decide (8 < p0)) (some ([], ())) (cond (inb (IntKind.wrap .i64 (p0 - 1)) 8) (some ((nth .str ([[78, 79, 79, 80], [76, 79, 71, 79, 85, 84], [67, 76, 79, 83, 69], [69, 88, 80, 85, 78, 71, 69], [83, 69, 76, 69, 67, 84], [65, 80, 80, 69, 78, 68], [70, 69, 84, 67, 72], [83, 84, 79, 82, 69]] : List (List UInt8)) (Int.toNat (IntKind.wrap .i64 (p0 - 1)))), ())) none)))
def kQ (N : Nat) {R : Type} (x2 : List UInt8) (x3 : List UInt8) (x4 : Int) (rec_ : (List UInt8) -> (List UInt8) -> (Int) -> Option R) (o0 : (List UInt8) -> Option R) : Option R :=
 (cond (decide (x4 < (((List.length x2) : Nat) : Int))) (cond (inb x4 (List.length x2)) (cond (decide (97 <= (nth .u8 x2 (Int.toNat x4)))) (cond (decide ((nth .u8 x2 (Int.toNat x4)) <= 122)) (cond (decide (List.length x3 + List.length ([((nth .u8 x2 (Int.toNat x4)) - 32)] : List UInt8) < 4611686018427387904)) (rec_ x2 (x3 ++ ([((nth .u8 x2 (Int.toNat x4)) - 32)] : List UInt8)) (IntKind.wrap .i64 (x4 + 1))) none) (cond (decide (List.length x3 + List.length ([(nth .u8 x2 (Int.toNat x4))] : List UInt8) < 4611686018427387904)) (rec_ x2 (x3 ++ ([(nth .u8 x2 (Int.toNat x4))] : List UInt8)) (IntKind.wrap .i64 (x4 + 1))) none)) (cond (decide (List.length x3 + List.length ([(nth .u8 x2 (Int.toNat x4))] : List UInt8) < 4611686018427387904)) (rec_ x2 (x3 ++ ([(nth .u8 x2 (Int.toNat x4))] : List UInt8)) (IntKind.wrap .i64 (x4 + 1))) none)) none) (o0 x3))
def ju (N : Nat) : Nat -> (List UInt8) -> (List UInt8) -> (Int) -> Option ((List UInt8))
 | 0, _, _, _ => none
 | m + 1, x2, x3, x4 => kQ N x2 x3 x4 (ju N m) (fun v0 => some v0)
def zw (N : Nat) (p0 : (List UInt8)) : Option ((List UInt8) × Unit) :=
 (Option.bind (ju N N p0 [] 0) fun o6 => (some (o6, ())))
def zcu (N : Nat) {R : Type} (x6 : List UInt8) (x7 : Int) (rec_ : (List UInt8) -> (Int) -> Option R) (o0 : (Int) -> Option R) (o1 : Unit -> Option R) : Option R :=
 (cond (decide (x7 <= 8)) (Option.bind (zhJ N x7) fun y11 => (Option.bind (zw N x6) fun y12 => (cond (y11.1 == y12.1) (o0 x7) (rec_ x6 (IntKind.wrap .i64 (x7 + 1)))))) (o1 ()))
def zb (N : Nat) : Nat -> (List UInt8) -> (Int) -> Option (((Int)) ⊕ (Unit))
 | 0, _, _ => none
 | m + 1, x6, x7 => zcu N x6 x7 (zb N m) (fun v0 => some (Sum.inl v0)) (fun _ => some (Sum.inr ()))
def zaI (N : Nat) (p0 : (List UInt8)) : Option (Int × Unit) :=
 (Option.bind (zb N N p0 1) fun o17 => (zm o17 (fun a18 => (some (a18, ()))) (fun b19 => (some (0, ())))))
def zdF (N : Nat) (p0 : Int) : Option ((List UInt8) × Unit) :=
 (cond (p0 == 1) (some ([70, 76, 65, 71, 83], ())) (cond (p0 == 2) (some ([85, 73, 68], ())) (cond (p0 == 4) (some ([82, 70, 67, 56, 50, 50, 46, 83, 73, 90, 69], ())) (cond (p0 == 8) (some ([66, 79, 68, 89, 46, 80, 69, 69, 75, 91, 93], ())) (cond (p0 == 16) (some ([66, 79, 68, 89, 91, 93], ())) (some ([], ())))))))
def zbT (N : Nat) {R : Type} (x6 : List UInt8) (x7 : Int) (rec_ : (List UInt8) -> (Int) -> Option R) (o0 : (Int) -> Option R) (o1 : Unit -> Option R) : Option R :=
 (cond (decide (x7 <= 16)) (Option.bind (zdF N x7) fun y11 => (Option.bind (zw N x6) fun y12 => (cond (y11.1 == y12.1) (o0 x7) (rec_ x6 (IntKind.wrap .i64 (2 * x7)))))) (o1 ()))
def zf (N : Nat) : Nat -> (List UInt8) -> (Int) -> Option (((Int)) ⊕ (Unit))
 | 0, _, _ => none
 | m + 1, x6, x7 => zbT N x6 x7 (zf N m) (fun v0 => some (Sum.inl v0)) (fun _ => some (Sum.inr ()))
def zaW (N : Nat) (p0 : (List UInt8)) : Option (Int × Unit) :=
 (Option.bind (zf N N p0 1) fun o17 => (zm o17 (fun a18 => (some (a18, ()))) (fun b19 => (some (0, ())))))
def kK (N : Nat) {R : Type} (x19 : Int) (x20 : List UInt8) (x21 : Int) (x22 : List UInt8) (x23 : List (Int × Int)) (x24 : Int) (x25 : Int) (x26 : Bool) (x27 : UInt8) (x28 : List UInt8) (x29 : List UInt8) (x30 : Int) (x31 : List UInt8) (x32 : List (Int × Int)) (x33 : Int) (x34 : Int) (x35 : Bool) (x36 : UInt8) (x37 : List UInt8) (rec_ : (Int) -> (List UInt8) -> (Int) -> (List UInt8) -> (List (Int × Int)) -> (Int) -> (Int) -> (Bool) -> (UInt8) -> (List UInt8) -> (List UInt8) -> (Int) -> (List UInt8) -> (List (Int × Int)) -> (Int) -> (Int) -> (Bool) -> (UInt8) -> (List UInt8) -> Option R) (o0 : (List UInt8) -> (Int) -> (List UInt8) -> (List (Int × Int)) -> (Int) -> (Int) -> (Bool) -> (UInt8) -> (List UInt8) -> (List UInt8) -> (Int) -> (List UInt8) -> (List (Int × Int)) -> (Int) -> (Int) -> (Bool) -> (UInt8) -> (List UInt8) -> Option R) (o1 : (List UInt8) -> (Int) -> (List UInt8) -> (List (Int × Int)) -> (Int) -> (Int) -> (Bool) -> (UInt8) -> (List UInt8) -> (List UInt8) -> (Int) -> (List UInt8) -> (List (Int × Int)) -> (Int) -> (Int) -> (Bool) -> (UInt8) -> (List UInt8) -> Option R) : Option R :=
 (cond (decide (x19 < (((List.length x23) : Nat) : Int))) (cond (inb x19 (List.length x23)) (cond (inb x19 (List.length x32)) (cond (!(((nth (.pair (.int .u32) (.int .u32)) x23 (Int.toNat x19)).1 == (nth (.pair (.int .u32) (.int .u32)) x32 (Int.toNat x19)).1) && (((nth (.pair (.int .u32) (.int .u32)) x23 (Int.toNat x19)).2 == (nth (.pair (.int .u32) (.int .u32)) x32 (Int.toNat x19)).2) && true))) (o0 x20 x21 x22 x23 x24 x25 x26 x27 x28 x29 x30 x31 x32 x33 x34 x35 x36 x37) (rec_ (IntKind.wrap .i64 (x19 + 1)) x20 x21 x22 x23 x24 x25 x26 x27 x28 x29 x30 x31 x32 x33 x34 x35 x36 x37)) none) none) (o1 x20 x21 x22 x23 x24 x25 x26 x27 x28 x29 x30 x31 x32 x33 x34 x35 x36 x37))
def qm (N : Nat) : Nat -> (Int) -> (List UInt8) -> (Int) -> (List UInt8) -> (List (Int × Int)) -> (Int) -> (Int) -> (Bool) -> (UInt8) -> (List UInt8) -> (List UInt8) -> (Int) -> (List UInt8) -> (List (Int × Int)) -> (Int) -> (Int) -> (Bool) -> (UInt8) -> (List UInt8) -> Option (((List UInt8) × (Int) × (List UInt8) × (List (Int × Int)) × (Int) × (Int) × (Bool) × (UInt8) × (List UInt8) × (List UInt8) × (Int) × (List UInt8) × (List (Int × Int)) × (Int) × (Int) × (Bool) × (UInt8) × (List UInt8)) ⊕ ((List UInt8) × (Int) × (List UInt8) × (List (Int × Int)) × (Int) × (Int) × (Bool) × (UInt8) × (List UInt8) × (List UInt8) × (Int) × (List UInt8) × (List (Int × Int)) × (Int) × (Int) × (Bool) × (UInt8) × (List UInt8)))
 | 0, _, _, _, _, _, _, _, _, _, _, _, _, _, _, _, _, _, _, _ => none
 | m + 1, x19, x20, x21, x22, x23, x24, x25, x26, x27, x28, x29, x30, x31, x32, x33, x34, x35, x36, x37 => kK N x19 x20 x21 x22 x23 x24 x25 x26 x27 x28 x29 x30 x31 x32 x33 x34 x35 x36 x37 (qm N m) (fun v0 v1 v2 v3 v4 v5 v6 v7 v8 v9 v10 v11 v12 v13 v14 v15 v16 v17 => some (Sum.inl (v0, v1, v2, v3, v4, v5, v6, v7, v8, v9, v10, v11, v12, v13, v14, v15, v16, v17))) (fun v0 v1 v2 v3 v4 v5 v6 v7 v8 v9 v10 v11 v12 v13 v14 v15 v16 v17 => some (Sum.inr (v0, v1, v2, v3, v4, v5, v6, v7, v8, v9, v10, v11, v12, v13, v14, v15, v16, v17)))
def zQ (N : Nat) (p0 : (El uS2)) (p1 : (El uS2)) : Option (Bool × Unit) :=
 (cond ((((List.length p0.2.2.2.1) : Nat) : Int) != (((List.length p1.2.2.2.1) : Nat) : Int)) (some (false, ())) (cond (p0.2.2.2.2.2.2.2.2 != p1.2.2.2.2.2.2.2.2) (some (false, ())) (Option.bind (qm N N 0 p0.1 p0.2.1 p0.2.2.1 p0.2.2.2.1 p0.2.2.2.2.1 p0.2.2.2.2.2.1 p0.2.2.2.2.2.2.1 p0.2.2.2.2.2.2.2.1 p0.2.2.2.2.2.2.2.2 p1.1 p1.2.1 p1.2.2.1 p1.2.2.2.1 p1.2.2.2.2.1 p1.2.2.2.2.2.1 p1.2.2.2.2.2.2.1 p1.2.2.2.2.2.2.2.1 p1.2.2.2.2.2.2.2.2) fun o43 => (zm o43 (fun a44 => (some (false, ()))) (fun b45 => (cond (b45.1 == b45.2.2.2.2.2.2.2.2.2.1) (cond (b45.2.1 == b45.2.2.2.2.2.2.2.2.2.2.1) (cond (b45.2.2.1 == b45.2.2.2.2.2.2.2.2.2.2.2.1) (cond (b45.2.2.2.2.1 == b45.2.2.2.2.2.2.2.2.2.2.2.2.2.1) (cond (b45.2.2.2.2.2.1 == b45.2.2.2.2.2.2.2.2.2.2.2.2.2.2.1) (cond (b45.2.2.2.2.2.2.1 == b45.2.2.2.2.2.2.2.2.2.2.2.2.2.2.2.1) (some ((b45.2.2.2.2.2.2.2.1 == b45.2.2.2.2.2.2.2.2.2.2.2.2.2.2.2.2.1), ())) (some (false, ()))) (some (false, ()))) (some (false, ()))) (some (false, ()))) (some (false, ()))) (some (false, ()))))))))
def wi (N : Nat) (p0 : Int) : Option ((List UInt8) × Unit) :=
 (cond (decide (1 <= p0)) (cond (decide (p0 <= 8)) (cond (inb (IntKind.wrap .i64 (p0 - 1)) 8) (some ((nth .str ([[78, 79, 79, 80], [76, 79, 71, 79, 85, 84], [67, 76, 79, 83, 69], [69, 88, 80, 85, 78, 71, 69], [83, 69, 76, 69, 67, 84], [65, 80, 80, 69, 78, 68], [70, 69, 84, 67, 72], [83, 84, 79, 82, 69]] : List (List UInt8)) (Int.toNat (IntKind.wrap .i64 (p0 - 1)))), ())) none) (some ([], ()))) (some ([], ())))
def jk (N : Nat) {R : Type} (x4 : List (Int × Int)) (x5 : List (Int × Int)) (x6 : Int) (x7 : Int) (rec_ : (List (Int × Int)) -> (List (Int × Int)) -> (Int) -> (Int) -> Option R) (o0 : Unit -> Option R) (o1 : Unit -> Option R) : Option R :=
 (cond (decide (x7 < x6)) (cond (inb x7 (List.length x4)) (cond (inb x7 (List.length x5)) (cond (!(((nth (.pair (.int .u32) (.int .u32)) x4 (Int.toNat x7)).1 == (nth (.pair (.int .u32) (.int .u32)) x5 (Int.toNat x7)).1) && (((nth (.pair (.int .u32) (.int .u32)) x4 (Int.toNat x7)).2 == (nth (.pair (.int .u32) (.int .u32)) x5 (Int.toNat x7)).2) && true))) (o0 ()) (rec_ x4 x5 x6 (IntKind.wrap .i64 (x7 + 1)))) none) none) (o1 ()))
def zB (N : Nat) : Nat -> (List (Int × Int)) -> (List (Int × Int)) -> (Int) -> (Int) -> Option ((Unit) ⊕ (Unit))
 | 0, _, _, _, _ => none
 | m + 1, x4, x5, x6, x7 => jk N x4 x5 x6 x7 (zB N m) (fun _ => some (Sum.inl ())) (fun _ => some (Sum.inr ()))
def zE (N : Nat) (p0 : (List (Int × Int))) (p1 : (List (Int × Int))) : Option (Bool × Unit) :=
 (cond ((((List.length p0) : Nat) : Int) != (((List.length p1) : Nat) : Int)) (some (false, ())) (Option.bind (zB N N p0 p1 (((List.length p0) : Nat) : Int) 0) fun o13 => (zm o13 (fun a14 => (some (false, ()))) (fun b15 => (some (true, ()))))))
def qa (N : Nat) (p0 : (El uS2)) (p1 : (El uS2)) : Option (Bool × Unit) :=
 (cond (p0.1 == p1.1) (cond (p0.2.1 == p1.2.1) (cond (p0.2.2.1 == p1.2.2.1) (Option.bind (zE N p0.2.2.2.1 p1.2.2.2.1) fun y1 => (cond y1.1 (cond (p0.2.2.2.2.1 == p1.2.2.2.2.1) (cond (p0.2.2.2.2.2.1 == p1.2.2.2.2.2.1) (cond (p0.2.2.2.2.2.2.1 == p1.2.2.2.2.2.2.1) (cond (p0.2.2.2.2.2.2.2.1 == p1.2.2.2.2.2.2.2.1) (some ((p0.2.2.2.2.2.2.2.2 == p1.2.2.2.2.2.2.2.2), ())) (some (false, ()))) (some (false, ()))) (some (false, ()))) (some (false, ()))) (some (false, ())))) (some (false, ()))) (some (false, ()))) (some (false, ())))
def wz (N : Nat) {R : Type} (x7 : List UInt8) (x8 : Int) (x9 : Int) (rec_ : (List UInt8) -> (Int) -> (Int) -> Option R) (o0 : Unit -> Option R) (o1 : Unit -> Option R) : Option R :=
 (cond (decide (x9 < x8)) (cond (inb x9 (List.length x7)) (Option.bind (xJ N (nth .u8 x7 (Int.toNat x9))) fun y12 => (cond (!y12.1) (o0 ()) (rec_ x7 x8 (IntKind.wrap .i64 (x9 + 1))))) none) (o1 ()))
def zT (N : Nat) : Nat -> (List UInt8) -> (Int) -> (Int) -> Option ((Unit) ⊕ (Unit))
 | 0, _, _, _ => none
 | m + 1, x7, x8, x9 => wz N x7 x8 x9 (zT N m) (fun _ => some (Sum.inl ())) (fun _ => some (Sum.inr ()))
def jd (N : Nat) (p0 : (El uS2)) : Option (Bool × Unit) :=
 (cond (p0.1 != []) (Option.bind (zT N N p0.1 (((List.length p0.1) : Nat) : Int) 0) fun o17 => (zm o17 (fun a18 => (some (false, ()))) (fun b19 => (Option.bind (wi N p0.2.1) fun y20 => (cond (y20.1 == []) (some (false, ())) (cond (decide (31 < p0.2.2.2.2.2.2.2.1)) (some (false, ())) (cond (decide (65536 < (if (((List.length p0.2.2.2.2.2.2.2.2) : Nat) : Int) > (((List.length p0.2.2.1) : Nat) : Int) then (((List.length p0.2.2.2.2.2.2.2.2) : Nat) : Int) else (((List.length p0.2.2.1) : Nat) : Int)))) (some (false, ())) (cond (p0.2.1 == 5) (Option.bind (qa N ([], (0, ([], p0.2.2.2))) ([], (0, ([], ([], (0, (0, (false, (0, []))))))))) fun y21 => (some (y21.1, ()))) (cond (p0.2.1 == 6) (Option.bind (qa N ([], (0, ([], (p0.2.2.2.1, (p0.2.2.2.2.1, (p0.2.2.2.2.2.1, (p0.2.2.2.2.2.2.1, (0, [])))))))) ([], (0, ([], ([], (0, (0, (false, (0, []))))))))) fun y22 => (some (y22.1, ()))) (cond (p0.2.1 == 7) (cond ((((List.length p0.2.2.2.1) : Nat) : Int) == 0) (some (false, ())) (cond (decide (p0.2.2.2.2.1 < 1)) (some (false, ())) (cond (decide (31 < p0.2.2.2.2.1)) (some (false, ())) (Option.bind (qa N ([], (0, (p0.2.2.1, ([], (0, p0.2.2.2.2.2))))) ([], (0, ([], ([], (0, (0, (false, (0, []))))))))) fun y23 => (some (y23.1, ())))))) (cond (p0.2.1 == 8) (cond ((((List.length p0.2.2.2.1) : Nat) : Int) == 0) (some (false, ())) (cond (decide (p0.2.2.2.2.2.1 < 0)) (some (false, ())) (cond (decide (2 < p0.2.2.2.2.2.1)) (some (false, ())) (Option.bind (qa N ([], (0, (p0.2.2.1, ([], (p0.2.2.2.2.1, (0, (false, (0, p0.2.2.2.2.2.2.2.2)))))))) ([], (0, ([], ([], (0, (0, (false, (0, []))))))))) fun y24 => (some (y24.1, ())))))) (Option.bind (qa N ([], (0, p0.2.2)) ([], (0, ([], ([], (0, (0, (false, (0, []))))))))) fun y25 => (some (y25.1, ())))))))))))))) (some (false, ())))
def kU (N : Nat) {R : Type} (x3 : List UInt8) (x4 : Int) (rec_ : (List UInt8) -> (Int) -> Option R) (o0 : Unit -> Option R) (o1 : (List UInt8) -> Option R) : Option R :=
 (cond (decide (x4 < (((List.length x3) : Nat) : Int))) (cond (inb x4 (List.length x3)) (Option.bind (kC N (nth .u8 x3 (Int.toNat x4))) fun y7 => (cond (!y7.1) (o0 ()) (rec_ x3 (IntKind.wrap .i64 (x4 + 1))))) none) (o1 x3))
def qn (N : Nat) : Nat -> (List UInt8) -> (Int) -> Option ((Unit) ⊕ ((List UInt8)))
 | 0, _, _ => none
 | m + 1, x3, x4 => kU N x3 x4 (qn N m) (fun _ => some (Sum.inl ())) (fun v0 => some (Sum.inr v0))
def kf (N : Nat) (p0 : (List UInt8)) : Option (Bool × Unit) :=
 (Option.bind (qn N N p0 0) fun o12 => (zm o12 (fun a13 => (some (false, ()))) (fun b14 => (some ((b14 != []), ())))))
def jN (N : Nat) (p0 : (El uS2)) : Option (Bool × Unit) :=
 (Option.bind (kf N p0.1) fun y1 => (cond (!y1.1) (some (false, ())) (cond (decide (p0.2.1 < 1)) (some (false, ())) (cond (decide (8 < p0.2.1)) (some (false, ())) (cond (p0.2.1 == 5) (cond (decide ((((List.length p0.2.2.1) : Nat) : Int) <= 65536)) (Option.bind (zQ N p0 (p0.1, (p0.2.1, (p0.2.2.1, ([], (0, (0, (false, (0, []))))))))) fun y2 => (some (y2.1, ()))) (some (false, ()))) (cond (p0.2.1 == 6) (cond (decide ((((List.length p0.2.2.1) : Nat) : Int) <= 65536)) (cond (decide ((((List.length p0.2.2.2.2.2.2.2.2) : Nat) : Int) <= 65536)) (cond (decide (p0.2.2.2.2.2.2.2.1 <= 31)) (Option.bind (zQ N p0 (p0.1, (p0.2.1, (p0.2.2.1, ([], (0, (0, (false, p0.2.2.2.2.2.2.2)))))))) fun y3 => (some (y3.1, ()))) (some (false, ()))) (some (false, ()))) (some (false, ()))) (cond (p0.2.1 == 7) (cond (decide (0 < (((List.length p0.2.2.2.1) : Nat) : Int))) (cond (decide (1 <= p0.2.2.2.2.1)) (cond (decide (p0.2.2.2.2.1 <= 31)) (Option.bind (zQ N p0 (p0.1, (p0.2.1, ([], (p0.2.2.2.1, (p0.2.2.2.2.1, (0, (false, (0, []))))))))) fun y4 => (some (y4.1, ()))) (some (false, ()))) (some (false, ()))) (some (false, ()))) (cond (p0.2.1 == 8) (cond (decide (0 < (((List.length p0.2.2.2.1) : Nat) : Int))) (cond (decide (0 <= p0.2.2.2.2.2.1)) (cond (decide (p0.2.2.2.2.2.1 <= 2)) (cond (decide (p0.2.2.2.2.2.2.2.1 <= 31)) (Option.bind (zQ N p0 (p0.1, (p0.2.1, ([], (p0.2.2.2.1, (0, (p0.2.2.2.2.2.1, (p0.2.2.2.2.2.2.1, (p0.2.2.2.2.2.2.2.1, []))))))))) fun y5 => (some (y5.1, ()))) (some (false, ()))) (some (false, ()))) (some (false, ()))) (some (false, ()))) (Option.bind (zQ N p0 (p0.1, (p0.2.1, ([], ([], (0, (0, (false, (0, []))))))))) fun y6 => (some (y6.1, ())))))))))))
def xZ (N : Nat) (p0 : (El uS2)) : Option (Bool × Unit) :=
 (cond (decide ((((List.length p0.1) : Nat) : Int) <= 100)) (cond (decide ((((List.length p0.2.2.1) : Nat) : Int) <= 300)) (cond (decide ((((List.length p0.2.2.2.1) : Nat) : Int) <= 60)) (some ((decide ((((List.length p0.2.2.2.2.2.2.2.2) : Nat) : Int) <= 500)), ())) (some (false, ()))) (some (false, ()))) (some (false, ())))
def zP (N : Nat) (p0 : (El uS2)) (p1 : (List UInt8)) : Option (Bool × Unit) :=
 (Option.bind (xZ N p0) fun y1 => (cond (!y1.1) (Option.bind (some (true, ())) fun y2 => (some (y2.1, ()))) (cond (decide (2000 < (((List.length p1) : Nat) : Int))) (Option.bind (some (true, ())) fun y3 => (some (y3.1, ()))) (Option.bind (jL N p1) fun y4 => (Option.bind (some (true, ())) fun y5 => (cond y5.1 (Option.bind (jd N p0) fun y6 => (Option.bind (jN N p0) fun y7 => (cond (y6.1 == y7.1) (cond (!y4.2.1) (some (true, ())) (Option.bind (jd N y4.1) fun y8 => (cond y8.1 (Option.bind (jN N y4.1) fun y9 => (some (y9.1, ()))) (some (false, ()))))) (some (false, ()))))) (some (false, ()))))))))
end Go.Proofs.Model
namespace Go.Sx
open Go Go.Gx Go.Mx
theorem wri {x : Int} (h : -9223372036854775808 <= x) (h' : x <= 9223372036854775807) : IntKind.wrap .i64 x = x := by
 simp [IntKind.wrap, IntKind.bits, IntKind.signed]; omega
theorem jw {i n : Nat} (h : i < n) : inb (i : Int) n = true := by
 unfold inb; simp; omega
theorem xQ {a b n : Nat} (h : a <= b) (h' : b <= n) : jV (a : Int) (b : Int) n = true := by
 unfold jV; simp; omega
theorem zaY {u : U} {l : List (El u)} {i : Nat} (h : i < l.length) : nth u l i = l[i] := by
 unfold nth; rw [List.getD_eq_getElem?_getD, List.getElem?_eq_getElem h]; rfl
theorem drop_one {α : Type} {l : List α} {i : Nat} (h : i < l.length) : l.drop i = l[i] :: l.drop (i + 1) := List.drop_eq_getElem_cons h
theorem zmv {i n : Nat} (h : i < n) : decide ((i : Int) < (n : Int)) = true := by simp; omega
theorem zmx {i n : Nat} (h : ¬ i < n) : decide ((i : Int) < (n : Int)) = false := by simp; omega
theorem zbg {α : Type} {l : List α} {n : Nat} : slice l 0 n = l.take n := by unfold slice; simp
theorem xG {α : Type} {l : List α} {a : Nat} : slice l a l.length = l.drop a := by
 unfold slice; rw [List.take_of_length_le]; rw [List.length_drop]; exact Nat.le_refl _
section
variable {u v : U} (hS : ∀ a b : El u, zjS u a b = true ↔ a = b)
include hS
end
end Go.Sx
namespace Go.Proofs.Model
open Go Go.Gx Go.Mx Go.Sx
theorem zhT {p : UInt8 -> Bool} (h : ((List.range 256).all fun n => p (UInt8.ofNat n)) = true) (c : UInt8) : p c = true := by
 rw [List.all_eq_true] at h
 have := h c.toNat (List.mem_range.2 c.toNat_lt)
 rwa [UInt8.ofNat_toNat] at this
def bOf (o : Option (Bool × Unit)) : Bool := match o with
 | some (b, _) => b
 | none => false
def zjD (c : UInt8) : Bool := bOf (za3 0 c)
def qA (c : UInt8) : Bool := bOf (kC 0 c)
def zfv (c : UInt8) : Bool := bOf (zgP 0 c)
def jW (c : UInt8) : Bool := bOf (zdJ 0 c)
def isB (o : Option (Bool × Unit)) (b : Bool) : Bool := match o with
 | some (x, _) => x == b
 | none => false
theorem zg1 {o : Option (Bool × Unit)} {b : Bool} (h : isB o b = true) : o = some (b, ()) := by
 unfold isB at h
 split at h
 ·rename_i x u; rw [beq_iff_eq] at h; subst h; rfl
 ·cases h
theorem zrt (N : Nat) (c : UInt8) : xJ N c = some (qA c, ()) := zg1 (zhT (p := fun c => isB (xJ 0 c) (qA c)) (by kernel_rfl) c)
theorem zsi (N : Nat) (c : UInt8) : kC N c = some (qA c, ()) := zg1 (zhT (p := fun c => isB (kC 0 c) (qA c)) (by kernel_rfl) c)
theorem zp0 (N : Nat) (c : UInt8) : j8 N c = some (zfv c, ()) := zg1 (zhT (p := fun c => isB (j8 0 c) (zfv c)) (by kernel_rfl) c)
theorem zqZ (N : Nat) (c : UInt8) : wm N c = some (jW c, ()) := zg1 (zhT (p := fun c => isB (wm 0 c) (jW c)) (by kernel_rfl) c)
theorem zrW (N : Nat) (c : UInt8) : xX N c = some (zjD c, ()) := zg1 (zhT (p := fun c => isB (xX 0 c) (zjD c)) (by kernel_rfl) c)
def run (p : UInt8 -> Bool) : List UInt8 -> Nat
 | [] => 0
 | c :: l => if p c then run p l + 1 else 0
theorem zgW (p : UInt8 -> Bool) : ∀ l : List UInt8, run p l <= l.length
 | [] => Nat.le_refl _
 | c :: l => by
  unfold run
  split
  ·have := zgW p l; simp; omega
  ·simp
theorem zdY (p : UInt8 -> Bool) : ∀ b : List UInt8, (b.take (run p b)).all p = true
 | [] => rfl
 | c :: l => by
  unfold run
  cases h : p c with
  | true => simpa [h] using zdY p l
  | false => simp
theorem zcw {p : UInt8 -> Bool} {c : UInt8} (hp : p c = false) : ∀ (l : List UInt8) (k : Nat), run p l < l.length -> l[run p l]? = some c -> qR c l k = ((k + run p l : Nat) : Int)
 | [], k, h, _ => by simp [run] at h
 | x :: l, k, h, hc => by
  unfold run at h hc |-
  cases hx : p x with
  | true =>
   simp only [hx, if_true] at h hc |-
   have hne : (x == c) = false := by
    cases e : x == c with
    | false => rfl
    | true => rw [beq_iff_eq] at e; subst e; rw [hp] at hx; cases hx
   have := zcw hp l (k + 1) (by simpa using h) (by simpa using hc)
   simp only [qR, hne, Bool.false_eq_true, if_false, this]
   congr 1; omega
  | false =>
   simp only [hx, Bool.false_eq_true, if_false] at h hc |-
   simp only [List.getElem?_cons_zero, Option.some.injEq] at hc
   subst hc
   simp [qR]
theorem zha {p : UInt8 -> Bool} {c : UInt8} (hp : p c = false) : ∀ (l : List UInt8) (k : Nat), qR c l k = -1 \/ ∃ i, qR c l k = ((k + i : Nat) : Int) /\ i < l.length /\ l[i]? = some c /\ ((l.take i).all p = true -> run p l = i)
 | [], k => .inl rfl
 | x :: l, k => by
  simp only [qR]
  cases e : x == c with
  | true =>
   rw [beq_iff_eq] at e; subst e
   exact .inr ⟨0, by simp, by simp, rfl, fun _ => by simp [run, hp]⟩
  | false =>
   simp only [Bool.false_eq_true, if_false]
   rcases zha hp l (k + 1) with h | ⟨i, h1, h2, h3, h4⟩
   ·exact .inl h
   ·refine .inr ⟨i + 1, by rw [h1]; congr 1; omega, by simpa using h2, by simpa using h3, fun h => ?_⟩
    simp only [List.take_succ_cons, List.all_cons, Bool.and_eq_true] at h
    simp [run, h.1, h4 h.2]
theorem zrl (N : Nat) (s : List UInt8) (hs : s.length <= 100000) : ∀ (m i : Nat), i <= s.length -> s.length < m + i ->
  qF N m s (s.length : Int) (i : Int) = some (if (s.drop i).all qA = true then Sum.inr () else Sum.inl ())
 | 0, i, h, h' => by omega
 | m + 1, i, h, h' => by
  unfold qF xr
  by_cases hi : i < s.length
  ·simp only [zmv hi, cond_true, jw hi, Int.toNat_natCast, zaY (u := .u8) hi, zrt, Option.bind_some, drop_one hi, List.all_cons]
   cases hc : qA s[i] with
   | true =>
    simp only [Bool.not_true, cond_false, Bool.true_and]
    rw [wri (by omega) (by omega), show ((i : Int) + 1) = ((i + 1 : Nat) : Int) by omega]
    exact zrl N s hs m (i + 1) (by omega) (by omega)
   | false => simp
  ·simp only [zmx hi, cond_false]
   rw [List.drop_eq_nil_of_le (by omega)]
   simp
def zq6 (b : List UInt8) : Option ((List UInt8) × Int × Bool × Unit) := some (if 0 < run qA b /\ b[run qA b]? = some 32 then (b.take (run qA b), ((run qA b + 1 : Nat) : Int), true, ()) else ([], 0, false, ()))
theorem zdT : qA 32 = false := by kernel_rfl
theorem znh (N : Nat) (b : List UInt8) (hb : b.length <= 100000) (hN : b.length < N) : zad N b = zq6 b := by
 unfold zad zq6 qC
 simp only [Option.bind_some]
 rcases zha zdT b 0 with h | ⟨i, h1, h2, h3, h4⟩
 ·rw [h]
  simp only [show decide ((-1 : Int) < 1) = true from rfl, cond_true]
  rw [if_neg]
  intro ⟨h1, h2⟩
  have hlt := (List.getElem?_eq_some_iff.1 h2).1
  rw [zcw zdT b 0 hlt h2] at h
  omega
 ·rw [h1, Nat.zero_add]
  by_cases hi : i = 0
  ·subst hi
   simp only [show decide (((0 : Nat) : Int) < 1) = true from rfl, cond_true]
   rw [if_neg]
   intro ⟨h5, h6⟩
   have hlt := (List.getElem?_eq_some_iff.1 h6).1
   have := zcw zdT b 0 hlt h6
   rw [h1] at this; omega
  ·have e1 : decide (((i : Nat) : Int) < 1) = false := by simp; omega
   have e4 := xQ (a := 0) (b := i) (n := b.length) (by omega) (by omega)
   rw [show ((0 : Nat) : Int) = (0 : Int) from rfl] at e4
   simp only [e1, cond_false, e4, Bool.true_and, cond_true, Int.toNat_natCast, zbg]
   have hl : (b.take i).length = i := by rw [List.length_take]; omega
   have e5 : ((b.take i) != ([] : List UInt8)) = true := by
    simp only [bne_iff_ne, ne_eq]
    intro e; rw [e] at hl; simp at hl; omega
   simp only [e5, cond_true]
   have := zrl N (b.take i) (by omega) N 0 (by omega) (by omega)
   rw [show ((0 : Nat) : Int) = (0 : Int) from rfl, List.drop_zero] at this
   rw [this]
   simp only [Option.bind_some]
   cases ha : (b.take i).all qA with
   | true =>
    simp only [if_true, zm]
    have hr := h4 ha
    rw [hr, if_pos ⟨by omega, h3⟩, wri (by omega) (by omega)]
    congr 2
   | false =>
    simp only [Bool.false_eq_true, if_false, zm]
    rw [if_neg]
    intro ⟨h5, h6⟩
    have hlt := (List.getElem?_eq_some_iff.1 h6).1
    have hf := zcw zdT b 0 hlt h6
    rw [h1] at hf
    have hri : run qA b = i := by omega
    have := zdY qA b
    rw [hri] at this
    rw [this] at ha; cases ha
def sq : List UInt8 -> Option (List UInt8 × Nat)
 | [] => none
 | c :: l => if c = 34 then some ([], 1) else if c = 92 then match l with
  | [] => none
  | d :: l => if d = 34 \/ d = 92 then match sq l with
   | some (o, n) => some (d :: o, n + 2)
   | none => none
   else none
  else if zfv c = true then match sq l with
   | some (o, n) => some (c :: o, n + 1)
   | none => none
  else none
theorem zjy : ∀ (l : List UInt8) {o : List UInt8} {n : Nat}, sq l = some (o, n) -> n <= l.length /\ o.length < n
 | [], o, n, h => by cases h
 | c :: l, o, n, h => by
  unfold sq at h
  split at h
  ·cases h; simp
  ·split at h
   ·split at h
    ·cases h
    ·rename_i d l'
     split at h
     ·split at h
      ·rename_i o' n' h'
       have := zjy l' h'
       cases h
       simp; omega
      ·cases h
     ·cases h
   ·split at h
    ·split at h
     ·rename_i o' n' h'
      have := zjy l h'
      cases h
      simp; omega
     ·cases h
    ·cases h
theorem zgr {n : Nat} (h : n <= 200000) : Nat.blt n jH = true := by
 rw [Nat.blt_eq]; unfold jH; omega
theorem zmJ : zfv 34 = true := by kernel_rfl
theorem znt : zfv 92 = true := by kernel_rfl
def QP (b out : List UInt8) (i : Nat) (o : Option (Bool × List UInt8 × Int × List UInt8)) : Prop := match sq (b.drop i) with
 | some (r, n) => o = some (true, b, ((i + n : Nat) : Int), out ++ r)
 | none => ∃ a o', o = some (false, b, a, o')
theorem zqU (N : Nat) (b : List UInt8) (hb : b.length <= 100000) : ∀ (m i : Nat) (out : List UInt8), i <= b.length -> out.length <= i -> b.length < m + i -> QP b out i (zK N m b (i : Int) out)
 | 0, i, out, h, ho, h' => by omega
 | m + 1, i, out, h, ho, h' => by
  unfold zK jE
  have d0 : decide ((i : Int) < 0) = false := by simp
  by_cases hi : i < b.length
  ·have d1 : decide (((b.length : Nat) : Int) <= (i : Int)) = false := by simp; omega
   have w1 : IntKind.wrap .i64 ((i : Int) + 1) = ((i + 1 : Nat) : Int) := by rw [wri (by omega) (by omega)]; omega
   have w2 : IntKind.wrap .i64 (((i + 1 : Nat) : Int) - 1) = (i : Int) := by rw [wri (by omega) (by omega)]; omega
   simp only [d0, d1, cond_false, w1, w2, jw hi, cond_true, Int.toNat_natCast, zaY (u := .u8) hi]
   unfold QP
   rw [drop_one hi]
   unfold sq
   cases hc : b[i] == (34 : UInt8) with
   | true =>
    rw [beq_iff_eq] at hc
    simp [hc]
   | false =>
    have hc' : ¬ b[i] = 34 := by simpa using hc
    simp only [cond_false, hc', if_false]
    cases hd : b[i] == (92 : UInt8) with
    | true =>
     have hd' : b[i] = 92 := by simpa using hd
     have d2 : decide (((i + 1 : Nat) : Int) < 0) = false := by simp; omega
     simp only [cond_true, hd', if_true, d2, cond_false]
     by_cases hi2 : i + 1 < b.length
     ·have d3 : decide (((b.length : Nat) : Int) <= ((i + 1 : Nat) : Int)) = false := by simp; omega
      have w3 : IntKind.wrap .i64 (((i + 1 : Nat) : Int) + 1) = ((i + 2 : Nat) : Int) := by rw [wri (by omega) (by omega)]; omega
      have w4 : IntKind.wrap .i64 (((i + 2 : Nat) : Int) - 1) = ((i + 1 : Nat) : Int) := by rw [wri (by omega) (by omega)]; omega
      simp only [d3, cond_false, w3, w4, jw hi2, cond_true, Int.toNat_natCast, zaY (u := .u8) hi2, zp0, Option.bind_some, zgr (show out.length + 1 <= 200000 by omega)]
      have ih := zqU N b hb m (i + 2) (out ++ [b[i + 1]]) (by omega) (by simp; omega) (by omega)
      unfold QP at ih
      rw [drop_one hi2]
      simp only
      cases he : b[i + 1] != (34 : UInt8) with
      | true =>
       have he' : ¬ b[i + 1] = 34 := by simpa using he
       cases hf : b[i + 1] != (92 : UInt8) with
       | true =>
        have hf' : ¬ b[i + 1] = 92 := by simpa using hf
        simp only [cond_true, he', hf', or_self, if_false]
        exact ⟨_, _, rfl⟩
       | false =>
        have hf' : b[i + 1] = 92 := by simpa using hf
        rw [hf'] at ih
        simp only [cond_true, cond_false, hf', or_true, if_true, znt, Bool.not_true]
        split at ih
        ·rename_i r n hr
         (first | simp only [hr] | skip)
         rw [ih]
         simp only [List.append_assoc, List.cons_append, List.nil_append, Option.some.injEq, Prod.mk.injEq, true_and, and_true]
         omega
        ·rename_i hr
         (first | simp only [hr] | skip)
         exact ih
      | false =>
       have he' : b[i + 1] = 34 := by simpa using he
       rw [he'] at ih
       simp only [cond_false, he', true_or, if_true, zmJ, Bool.not_true]
       split at ih
       ·rename_i r n hr
        (first | simp only [hr] | skip)
        rw [ih]
        simp only [List.append_assoc, List.cons_append, List.nil_append, Option.some.injEq, Prod.mk.injEq, true_and, and_true]
        omega
       ·rename_i hr
        (first | simp only [hr] | skip)
        exact ih
     ·have d3 : decide (((b.length : Nat) : Int) <= ((i + 1 : Nat) : Int)) = true := by simp; omega
      rw [List.drop_eq_nil_of_le (by omega)]
      simp only [d3, cond_true]
      exact ⟨_, _, rfl⟩
    | false =>
     have hd' : ¬ b[i] = 92 := by simpa using hd
     simp only [cond_false, hd', if_false, zp0, Option.bind_some, zgr (show out.length + 1 <= 200000 by omega), cond_true]
     cases ht : zfv b[i] with
     | true =>
      simp only [Bool.not_true, cond_false, if_true]
      have ih := zqU N b hb m (i + 1) (out ++ [b[i]]) (by omega) (by simp; omega) (by omega)
      unfold QP at ih
      split at ih
      ·rename_i r n hr
       (first | simp only [hr] | skip)
       rw [ih]
       simp only [List.append_assoc, List.cons_append, List.nil_append, Option.some.injEq, Prod.mk.injEq, true_and, and_true]
       omega
      ·rename_i hr
       (first | simp only [hr] | skip)
       exact ih
     | false =>
      simp only [Bool.not_false, cond_true, Bool.false_eq_true, if_false]
      exact ⟨_, _, rfl⟩
  ·have d1 : decide (((b.length : Nat) : Int) <= (i : Int)) = true := by simp; omega
   simp only [d0, d1, cond_false, cond_true]
   unfold QP
   rw [List.drop_eq_nil_of_le (by omega)]
   exact ⟨_, _, rfl⟩
def zqy (b : List UInt8) (i : Nat) : Option ((List UInt8) × Int × Bool × Unit) := some (match (if b[i]? = some 34 then sq (b.drop (i + 1)) else none) with
 | some (r, n) => (r, ((i + 1 + n : Nat) : Int), true, ())
 | none => ([], 0, false, ()))
theorem znp (N : Nat) (b : List UInt8) (hb : b.length <= 100000) (hN : b.length < N) (i : Nat) (hi : i < b.length) : qZ N b (i : Int) = zqy b i := by
 unfold qZ zqy
 have d0 : decide ((i : Int) < 0) = false := by simp
 have d1 : decide (((b.length : Nat) : Int) <= (i : Int)) = false := by simp; omega
 have w1 : IntKind.wrap .i64 ((i : Int) + 1) = ((i + 1 : Nat) : Int) := by rw [wri (by omega) (by omega)]; omega
 have w2 : IntKind.wrap .i64 (((i + 1 : Nat) : Int) - 1) = (i : Int) := by rw [wri (by omega) (by omega)]; omega
 simp only [d0, d1, cond_false, w1, w2, jw hi, cond_true, Int.toNat_natCast, zaY (u := .u8) hi, List.getElem?_eq_getElem hi, Option.some.injEq]
 cases hc : b[i] == (34 : UInt8) with
 | false =>
  have hc' : ¬ b[i] = 34 := by simpa using hc
  simp [hc']
 | true =>
  have hc' : b[i] = 34 := by simpa using hc
  have := zqU N b hb N (i + 1) [] (by omega) (by simp) (by omega)
  unfold QP at this
  simp only [hc', if_true, Bool.not_true, cond_false]
  split at this
  ·rename_i r n hr
   (first | simp only [hr] | skip)
   rw [this]; rfl
  ·rename_i hr
   (first | simp only [hr] | skip)
   obtain ⟨a, o', h⟩ := this
   rw [h]; rfl
def dgt (n k : Nat) : UInt8 := UInt8.ofNat (48 + n / k % 10)
theorem zdj (n : Nat) : Int.tmod ((n : Nat) : Int) 100 = ((n % 100 : Nat) : Int) := rfl
theorem zds (n : Nat) : Int.tmod ((n : Nat) : Int) 10000 = ((n % 10000 : Nat) : Int) := rfl
theorem zdw (n : Nat) : Int.tmod ((n : Nat) : Int) 100000000 = ((n % 100000000 : Nat) : Int) := rfl
theorem zdt (n : Nat) : Int.tdiv ((n : Nat) : Int) 100 = ((n / 100 : Nat) : Int) := rfl
theorem zdn (n : Nat) : Int.tdiv ((n : Nat) : Int) 10000 = ((n / 10000 : Nat) : Int) := rfl
theorem zdq (n : Nat) : Int.tdiv ((n : Nat) : Int) 100000000 = ((n / 100000000 : Nat) : Int) := rfl
theorem zhm (n : Nat) : ((n : Nat) : Int) * 2 = ((n * 2 : Nat) : Int) := rfl
theorem zhk (n : Nat) : ((n : Nat) : Int) + 1 = ((n + 1 : Nat) : Int) := rfl
theorem zdf (n : Nat) : (48 : Int) + ((n : Nat) : Int) = ((48 + n : Nat) : Int) := rfl
theorem zmP {n : Nat} (h : n < 4294967296) : IntKind.wrap .u32 ((n : Nat) : Int) = ((n : Nat) : Int) := by rw [IntKind.wrap_u32]; omega
theorem zhf {n : Nat} (h : n < 18446744073709551616) : IntKind.wrap .u64 ((n : Nat) : Int) = ((n : Nat) : Int) := by rw [IntKind.wrap_u64]; omega
theorem kH {k : Nat} (h : k < 100) : nth .u8 zaC (k * 2) = UInt8.ofNat (48 + k / 10) := by
 have key : ((List.range 100).all fun k => nth .u8 zaC (k * 2) == UInt8.ofNat (48 + k / 10)) = true := by kernel_rfl
 rw [List.all_eq_true] at key
 exact beq_iff_eq.1 (key k (List.mem_range.2 h))
theorem zaU {k : Nat} (h : k < 100) : nth .u8 zaC (k * 2 + 1) = UInt8.ofNat (48 + k % 10) := by
 have key : ((List.range 100).all fun k => nth .u8 zaC (k * 2 + 1) == UInt8.ofNat (48 + k % 10)) = true := by kernel_rfl
 rw [List.all_eq_true] at key
 exact beq_iff_eq.1 (key k (List.mem_range.2 h))
theorem jl {n : Nat} (h : n < 256) : zao ((n : Nat) : Int) = UInt8.ofNat n := by
 unfold zao
 rw [IntKind.wrap_u8, show (((n : Nat) : Int) % 256).toNat = n by omega]
theorem wY {n a b : Nat} (h : a = n / b % 10) : UInt8.ofNat (48 + a) = dgt n b := by rw [h]; rfl
theorem zso (N n : Nat) (hN : 10 <= N) (h1 : 100 <= n) (h2 : n < 1000) (hm : n < 4294967296) (hd : zq N ((n : Nat) : Int) = some ((3 : Int), ())) : zn N ((n : Nat) : Int) = some ([dgt n 100, dgt n 10, dgt n 1], ()) := by
 obtain ⟨m, hm2⟩ : ∃ m, N = m + 2 := ⟨N - 2, by omega⟩
 have hl : zd N N = zd N (m + 2) := congrArg _ hm2
 have c0 : decide (((n : Nat) : Int) < 100) = false := by simp; omega
 unfold zn
 simp only [zhf (show n < 18446744073709551616 by omega)]
 simp only [hd, hl, Option.bind_some, c0, cond_false, cond_true, show jV (0 : Int) (3 : Int) 24 = true from rfl, show ((Int.toNat (3 : Int)) - 0 : Nat) = 3 from rfl]
 unfold zd zr
 simp (disch := omega) only [zmP, zhf, zdj, zds, zdw, zdt, zdn, zdq, zhm, zhk, zdf, Int.toNat_natCast, jw, kH, zaU, jl, cond_true, cond_false, Option.bind_some,
  show inb (0 : Int) 3 = true from rfl, show inb (1 : Int) 3 = true from rfl, show inb (2 : Int) 3 = true from rfl, show (0 + Int.toNat (1 : Int) : Nat) = 1 from rfl, show (0 + Int.toNat (2 : Int) : Nat) = 2 from rfl, show (0 + 0 : Nat) = 0 from rfl, show (0 + 3 : Nat) = 3 from rfl, show decide ((8 : Int) <= ((3 : Nat) : Int)) = false from rfl, show decide ((4 : Int) <= ((3 : Nat) : Int)) = false from rfl, show decide ((2 : Int) <= ((3 : Nat) : Int)) = true from rfl, show IntKind.wrap .i64 (((3 : Nat) : Int) - (1 : Int)) = (2 : Int) from rfl, show IntKind.wrap .i64 (((3 : Nat) : Int) - (2 : Int)) = (1 : Int) from rfl, show decide ((0 : Int) < (1 : Int)) = true from rfl]
 simp only [slice, List.set_cons_succ, List.set_cons_zero, List.drop_zero, List.take_succ_cons, List.take_zero, Nat.sub_zero, Option.some.injEq, Prod.mk.injEq, List.cons.injEq, and_true]
 refine ⟨?_, ?_, ?_⟩ <;> exact wY (by omega)
theorem zrP (N n : Nat) (hN : 10 <= N) (h1 : 1000 <= n) (h2 : n < 10000) (hm : n < 4294967296) (hd : zq N ((n : Nat) : Int) = some ((4 : Int), ())) : zn N ((n : Nat) : Int) = some ([dgt n 1000, dgt n 100, dgt n 10, dgt n 1], ()) := by
 obtain ⟨m, hm2⟩ : ∃ m, N = m + 2 := ⟨N - 2, by omega⟩
 have hl : zd N N = zd N (m + 2) := congrArg _ hm2
 have c0 : decide (((n : Nat) : Int) < 100) = false := by simp; omega
 unfold zn
 simp only [zhf (show n < 18446744073709551616 by omega)]
 simp only [hd, hl, Option.bind_some, c0, cond_false, cond_true, show jV (0 : Int) (4 : Int) 24 = true from rfl, show ((Int.toNat (4 : Int)) - 0 : Nat) = 4 from rfl]
 unfold zd zr
 simp (disch := omega) only [zmP, zhf, zdj, zds, zdw, zdt, zdn, zdq, zhm, zhk, zdf, Int.toNat_natCast, jw, kH, zaU, jl, cond_true, cond_false, Option.bind_some,
  show inb (0 : Int) 4 = true from rfl, show inb (1 : Int) 4 = true from rfl, show inb (2 : Int) 4 = true from rfl, show inb (3 : Int) 4 = true from rfl, show (0 + Int.toNat (0 : Int) : Nat) = 0 from rfl, show (0 + Int.toNat (1 : Int) : Nat) = 1 from rfl, show (0 + Int.toNat (2 : Int) : Nat) = 2 from rfl, show (0 + Int.toNat (3 : Int) : Nat) = 3 from rfl, show (0 + 0 : Nat) = 0 from rfl, show (0 + 4 : Nat) = 4 from rfl, show decide ((8 : Int) <= ((4 : Nat) : Int)) = false from rfl, show decide ((4 : Int) <= ((4 : Nat) : Int)) = true from rfl, show IntKind.wrap .i64 (((4 : Nat) : Int) - (1 : Int)) = (3 : Int) from rfl, show IntKind.wrap .i64 (((4 : Nat) : Int) - (2 : Int)) = (2 : Int) from rfl, show IntKind.wrap .i64 (((4 : Nat) : Int) - (3 : Int)) = (1 : Int) from rfl, show IntKind.wrap .i64 (((4 : Nat) : Int) - (4 : Int)) = (0 : Int) from rfl, show decide ((2 : Int) <= (0 : Int)) = false from rfl, show decide ((0 : Int) < (0 : Int)) = false from rfl]
 simp only [slice, List.set_cons_succ, List.set_cons_zero, List.drop_zero, List.take_succ_cons, List.take_zero, Nat.sub_zero, Option.some.injEq, Prod.mk.injEq, List.cons.injEq, and_true]
 refine ⟨?_, ?_, ?_, ?_⟩ <;> exact wY (by omega)
theorem zrS (N n : Nat) (hN : 10 <= N) (h1 : 10000 <= n) (h2 : n < 100000) (hm : n < 4294967296) (hd : zq N ((n : Nat) : Int) = some ((5 : Int), ())) : zn N ((n : Nat) : Int) = some ([dgt n 10000, dgt n 1000, dgt n 100, dgt n 10, dgt n 1], ()) := by
 obtain ⟨m, hm2⟩ : ∃ m, N = m + 2 := ⟨N - 2, by omega⟩
 have hl : zd N N = zd N (m + 2) := congrArg _ hm2
 have c0 : decide (((n : Nat) : Int) < 100) = false := by simp; omega
 unfold zn
 simp only [zhf (show n < 18446744073709551616 by omega)]
 simp only [hd, hl, Option.bind_some, c0, cond_false, cond_true, show jV (0 : Int) (5 : Int) 24 = true from rfl, show ((Int.toNat (5 : Int)) - 0 : Nat) = 5 from rfl]
 unfold zd zr
 simp (disch := omega) only [zmP, zhf, zdj, zds, zdw, zdt, zdn, zdq, zhm, zhk, zdf, Int.toNat_natCast, jw, kH, zaU, jl, cond_true, cond_false, Option.bind_some,
  show inb (0 : Int) 5 = true from rfl, show inb (1 : Int) 5 = true from rfl, show inb (2 : Int) 5 = true from rfl, show inb (3 : Int) 5 = true from rfl, show inb (4 : Int) 5 = true from rfl, show (0 + Int.toNat (1 : Int) : Nat) = 1 from rfl, show (0 + Int.toNat (2 : Int) : Nat) = 2 from rfl, show (0 + Int.toNat (3 : Int) : Nat) = 3 from rfl, show (0 + Int.toNat (4 : Int) : Nat) = 4 from rfl, show (0 + 0 : Nat) = 0 from rfl, show (0 + 5 : Nat) = 5 from rfl, show decide ((8 : Int) <= ((5 : Nat) : Int)) = false from rfl, show decide ((4 : Int) <= ((5 : Nat) : Int)) = true from rfl, show IntKind.wrap .i64 (((5 : Nat) : Int) - (1 : Int)) = (4 : Int) from rfl, show IntKind.wrap .i64 (((5 : Nat) : Int) - (2 : Int)) = (3 : Int) from rfl, show IntKind.wrap .i64 (((5 : Nat) : Int) - (3 : Int)) = (2 : Int) from rfl, show IntKind.wrap .i64 (((5 : Nat) : Int) - (4 : Int)) = (1 : Int) from rfl, show decide ((2 : Int) <= (1 : Int)) = false from rfl, show decide ((0 : Int) < (1 : Int)) = true from rfl]
 simp only [slice, List.set_cons_succ, List.set_cons_zero, List.drop_zero, List.take_succ_cons, List.take_zero, Nat.sub_zero, Option.some.injEq, Prod.mk.injEq, List.cons.injEq, and_true]
 refine ⟨?_, ?_, ?_, ?_, ?_⟩ <;> exact wY (by omega)
theorem zr8 (N n : Nat) (hN : 10 <= N) (h1 : 100000 <= n) (h2 : n < 1000000) (hm : n < 4294967296) (hd : zq N ((n : Nat) : Int) = some ((6 : Int), ())) : zn N ((n : Nat) : Int) = some ([dgt n 100000, dgt n 10000, dgt n 1000, dgt n 100, dgt n 10, dgt n 1], ()) := by
 obtain ⟨m, hm2⟩ : ∃ m, N = m + 2 := ⟨N - 2, by omega⟩
 have hl : zd N N = zd N (m + 2) := congrArg _ hm2
 have c0 : decide (((n : Nat) : Int) < 100) = false := by simp; omega
 unfold zn
 simp only [zhf (show n < 18446744073709551616 by omega)]
 simp only [hd, hl, Option.bind_some, c0, cond_false, cond_true, show jV (0 : Int) (6 : Int) 24 = true from rfl, show ((Int.toNat (6 : Int)) - 0 : Nat) = 6 from rfl]
 unfold zd zr
 simp (disch := omega) only [zmP, zhf, zdj, zds, zdw, zdt, zdn, zdq, zhm, zhk, zdf, Int.toNat_natCast, jw, kH, zaU, jl, cond_true, cond_false, Option.bind_some,
  show inb (0 : Int) 6 = true from rfl, show inb (1 : Int) 6 = true from rfl, show inb (2 : Int) 6 = true from rfl, show inb (3 : Int) 6 = true from rfl, show inb (4 : Int) 6 = true from rfl, show inb (5 : Int) 6 = true from rfl, show (0 + Int.toNat (0 : Int) : Nat) = 0 from rfl, show (0 + Int.toNat (1 : Int) : Nat) = 1 from rfl, show (0 + Int.toNat (2 : Int) : Nat) = 2 from rfl, show (0 + Int.toNat (3 : Int) : Nat) = 3 from rfl, show (0 + Int.toNat (4 : Int) : Nat) = 4 from rfl, show (0 + Int.toNat (5 : Int) : Nat) = 5 from rfl, show (0 + 0 : Nat) = 0 from rfl, show (0 + 6 : Nat) = 6 from rfl, show decide ((8 : Int) <= ((6 : Nat) : Int)) = false from rfl, show decide ((4 : Int) <= ((6 : Nat) : Int)) = true from rfl, show IntKind.wrap .i64 (((6 : Nat) : Int) - (1 : Int)) = (5 : Int) from rfl, show IntKind.wrap .i64 (((6 : Nat) : Int) - (2 : Int)) = (4 : Int) from rfl, show IntKind.wrap .i64 (((6 : Nat) : Int) - (3 : Int)) = (3 : Int) from rfl, show IntKind.wrap .i64 (((6 : Nat) : Int) - (4 : Int)) = (2 : Int) from rfl, show decide ((2 : Int) <= (2 : Int)) = true from rfl, show IntKind.wrap .i64 ((2 : Int) - (1 : Int)) = (1 : Int) from rfl, show IntKind.wrap .i64 ((2 : Int) - (2 : Int)) = (0 : Int) from rfl, show decide ((0 : Int) < (0 : Int)) = false from rfl]
 simp only [slice, List.set_cons_succ, List.set_cons_zero, List.drop_zero, List.take_succ_cons, List.take_zero, Nat.sub_zero, Option.some.injEq, Prod.mk.injEq, List.cons.injEq, and_true]
 refine ⟨?_, ?_, ?_, ?_, ?_, ?_⟩ <;> exact wY (by omega)
theorem zrI (N n : Nat) (hN : 10 <= N) (h1 : 1000000 <= n) (h2 : n < 10000000) (hm : n < 4294967296) (hd : zq N ((n : Nat) : Int) = some ((7 : Int), ())) : zn N ((n : Nat) : Int) = some ([dgt n 1000000, dgt n 100000, dgt n 10000, dgt n 1000, dgt n 100, dgt n 10, dgt n 1], ()) := by
 obtain ⟨m, hm2⟩ : ∃ m, N = m + 2 := ⟨N - 2, by omega⟩
 have hl : zd N N = zd N (m + 2) := congrArg _ hm2
 have c0 : decide (((n : Nat) : Int) < 100) = false := by simp; omega
 unfold zn
 simp only [zhf (show n < 18446744073709551616 by omega)]
 simp only [hd, hl, Option.bind_some, c0, cond_false, cond_true, show jV (0 : Int) (7 : Int) 24 = true from rfl, show ((Int.toNat (7 : Int)) - 0 : Nat) = 7 from rfl]
 unfold zd zr
 simp (disch := omega) only [zmP, zhf, zdj, zds, zdw, zdt, zdn, zdq, zhm, zhk, zdf, Int.toNat_natCast, jw, kH, zaU, jl, cond_true, cond_false, Option.bind_some,
  show inb (0 : Int) 7 = true from rfl, show inb (1 : Int) 7 = true from rfl, show inb (2 : Int) 7 = true from rfl, show inb (3 : Int) 7 = true from rfl, show inb (4 : Int) 7 = true from rfl, show inb (5 : Int) 7 = true from rfl, show inb (6 : Int) 7 = true from rfl, show (0 + Int.toNat (1 : Int) : Nat) = 1 from rfl, show (0 + Int.toNat (2 : Int) : Nat) = 2 from rfl, show (0 + Int.toNat (3 : Int) : Nat) = 3 from rfl, show (0 + Int.toNat (4 : Int) : Nat) = 4 from rfl, show (0 + Int.toNat (5 : Int) : Nat) = 5 from rfl, show (0 + Int.toNat (6 : Int) : Nat) = 6 from rfl, show (0 + 0 : Nat) = 0 from rfl, show (0 + 7 : Nat) = 7 from rfl, show decide ((8 : Int) <= ((7 : Nat) : Int)) = false from rfl, show decide ((4 : Int) <= ((7 : Nat) : Int)) = true from rfl, show IntKind.wrap .i64 (((7 : Nat) : Int) - (1 : Int)) = (6 : Int) from rfl, show IntKind.wrap .i64 (((7 : Nat) : Int) - (2 : Int)) = (5 : Int) from rfl, show IntKind.wrap .i64 (((7 : Nat) : Int) - (3 : Int)) = (4 : Int) from rfl, show IntKind.wrap .i64 (((7 : Nat) : Int) - (4 : Int)) = (3 : Int) from rfl, show decide ((2 : Int) <= (3 : Int)) = true from rfl, show IntKind.wrap .i64 ((3 : Int) - (1 : Int)) = (2 : Int) from rfl, show IntKind.wrap .i64 ((3 : Int) - (2 : Int)) = (1 : Int) from rfl, show decide ((0 : Int) < (1 : Int)) = true from rfl]
 simp only [slice, List.set_cons_succ, List.set_cons_zero, List.drop_zero, List.take_succ_cons, List.take_zero, Nat.sub_zero, Option.some.injEq, Prod.mk.injEq, List.cons.injEq, and_true]
 refine ⟨?_, ?_, ?_, ?_, ?_, ?_, ?_⟩ <;> exact wY (by omega)
theorem zsk (N n : Nat) (hN : 10 <= N) (h1 : 10000000 <= n) (h2 : n < 100000000) (hm : n < 4294967296) (hd : zq N ((n : Nat) : Int) = some ((8 : Int), ())) : zn N ((n : Nat) : Int) = some ([dgt n 10000000, dgt n 1000000, dgt n 100000, dgt n 10000, dgt n 1000, dgt n 100, dgt n 10, dgt n 1], ()) := by
 obtain ⟨m, hm2⟩ : ∃ m, N = m + 2 := ⟨N - 2, by omega⟩
 have hl : zd N N = zd N (m + 2) := congrArg _ hm2
 have c0 : decide (((n : Nat) : Int) < 100) = false := by simp; omega
 unfold zn
 simp only [zhf (show n < 18446744073709551616 by omega)]
 simp only [hd, hl, Option.bind_some, c0, cond_false, cond_true, show jV (0 : Int) (8 : Int) 24 = true from rfl, show ((Int.toNat (8 : Int)) - 0 : Nat) = 8 from rfl]
 unfold zd zr
 unfold zd zr
 simp (disch := omega) only [zmP, zhf, zdj, zds, zdw, zdt, zdn, zdq, zhm, zhk, zdf, Int.toNat_natCast, jw, kH, zaU, jl, cond_true, cond_false, Option.bind_some,
  show inb (0 : Int) 8 = true from rfl, show inb (1 : Int) 8 = true from rfl, show inb (2 : Int) 8 = true from rfl, show inb (3 : Int) 8 = true from rfl, show inb (4 : Int) 8 = true from rfl, show inb (5 : Int) 8 = true from rfl, show inb (6 : Int) 8 = true from rfl, show inb (7 : Int) 8 = true from rfl, show (0 + Int.toNat (0 : Int) : Nat) = 0 from rfl, show (0 + Int.toNat (1 : Int) : Nat) = 1 from rfl, show (0 + Int.toNat (2 : Int) : Nat) = 2 from rfl, show (0 + Int.toNat (3 : Int) : Nat) = 3 from rfl, show (0 + Int.toNat (4 : Int) : Nat) = 4 from rfl, show (0 + Int.toNat (5 : Int) : Nat) = 5 from rfl, show (0 + Int.toNat (6 : Int) : Nat) = 6 from rfl, show (0 + Int.toNat (7 : Int) : Nat) = 7 from rfl, show (0 + 0 : Nat) = 0 from rfl, show (0 + 8 : Nat) = 8 from rfl, show decide ((8 : Int) <= ((8 : Nat) : Int)) = true from rfl, show IntKind.wrap .i64 (((8 : Nat) : Int) - (1 : Int)) = (7 : Int) from rfl, show IntKind.wrap .i64 (((8 : Nat) : Int) - (2 : Int)) = (6 : Int) from rfl, show IntKind.wrap .i64 (((8 : Nat) : Int) - (3 : Int)) = (5 : Int) from rfl, show IntKind.wrap .i64 (((8 : Nat) : Int) - (4 : Int)) = (4 : Int) from rfl, show IntKind.wrap .i64 (((8 : Nat) : Int) - (5 : Int)) = (3 : Int) from rfl, show IntKind.wrap .i64 (((8 : Nat) : Int) - (6 : Int)) = (2 : Int) from rfl, show IntKind.wrap .i64 (((8 : Nat) : Int) - (7 : Int)) = (1 : Int) from rfl, show IntKind.wrap .i64 (((8 : Nat) : Int) - (8 : Int)) = (0 : Int) from rfl, show decide ((8 : Int) <= (0 : Int)) = false from rfl, show decide ((4 : Int) <= (0 : Int)) = false from rfl, show decide ((2 : Int) <= (0 : Int)) = false from rfl, show decide ((0 : Int) < (0 : Int)) = false from rfl]
 simp only [slice, List.set_cons_succ, List.set_cons_zero, List.drop_zero, List.take_succ_cons, List.take_zero, Nat.sub_zero, Option.some.injEq, Prod.mk.injEq, List.cons.injEq, and_true]
 refine ⟨?_, ?_, ?_, ?_, ?_, ?_, ?_, ?_⟩ <;> exact wY (by omega)
theorem zrJ (N n : Nat) (hN : 10 <= N) (h1 : 100000000 <= n) (h2 : n < 1000000000) (hm : n < 4294967296) (hd : zq N ((n : Nat) : Int) = some ((9 : Int), ())) : zn N ((n : Nat) : Int) = some ([dgt n 100000000, dgt n 10000000, dgt n 1000000, dgt n 100000, dgt n 10000, dgt n 1000, dgt n 100, dgt n 10, dgt n 1], ()) := by
 obtain ⟨m, hm2⟩ : ∃ m, N = m + 2 := ⟨N - 2, by omega⟩
 have hl : zd N N = zd N (m + 2) := congrArg _ hm2
 have c0 : decide (((n : Nat) : Int) < 100) = false := by simp; omega
 unfold zn
 simp only [zhf (show n < 18446744073709551616 by omega)]
 simp only [hd, hl, Option.bind_some, c0, cond_false, cond_true, show jV (0 : Int) (9 : Int) 24 = true from rfl, show ((Int.toNat (9 : Int)) - 0 : Nat) = 9 from rfl]
 unfold zd zr
 unfold zd zr
 simp (disch := omega) only [zmP, zhf, zdj, zds, zdw, zdt, zdn, zdq, zhm, zhk, zdf, Int.toNat_natCast, jw, kH, zaU, jl, cond_true, cond_false, Option.bind_some,
  show inb (0 : Int) 9 = true from rfl, show inb (1 : Int) 9 = true from rfl, show inb (2 : Int) 9 = true from rfl, show inb (3 : Int) 9 = true from rfl, show inb (4 : Int) 9 = true from rfl, show inb (5 : Int) 9 = true from rfl, show inb (6 : Int) 9 = true from rfl, show inb (7 : Int) 9 = true from rfl, show inb (8 : Int) 9 = true from rfl, show (0 + Int.toNat (1 : Int) : Nat) = 1 from rfl, show (0 + Int.toNat (2 : Int) : Nat) = 2 from rfl, show (0 + Int.toNat (3 : Int) : Nat) = 3 from rfl, show (0 + Int.toNat (4 : Int) : Nat) = 4 from rfl, show (0 + Int.toNat (5 : Int) : Nat) = 5 from rfl, show (0 + Int.toNat (6 : Int) : Nat) = 6 from rfl, show (0 + Int.toNat (7 : Int) : Nat) = 7 from rfl, show (0 + Int.toNat (8 : Int) : Nat) = 8 from rfl, show (0 + 0 : Nat) = 0 from rfl, show (0 + 9 : Nat) = 9 from rfl, show decide ((8 : Int) <= ((9 : Nat) : Int)) = true from rfl, show IntKind.wrap .i64 (((9 : Nat) : Int) - (1 : Int)) = (8 : Int) from rfl, show IntKind.wrap .i64 (((9 : Nat) : Int) - (2 : Int)) = (7 : Int) from rfl, show IntKind.wrap .i64 (((9 : Nat) : Int) - (3 : Int)) = (6 : Int) from rfl, show IntKind.wrap .i64 (((9 : Nat) : Int) - (4 : Int)) = (5 : Int) from rfl, show IntKind.wrap .i64 (((9 : Nat) : Int) - (5 : Int)) = (4 : Int) from rfl, show IntKind.wrap .i64 (((9 : Nat) : Int) - (6 : Int)) = (3 : Int) from rfl, show IntKind.wrap .i64 (((9 : Nat) : Int) - (7 : Int)) = (2 : Int) from rfl, show IntKind.wrap .i64 (((9 : Nat) : Int) - (8 : Int)) = (1 : Int) from rfl, show decide ((8 : Int) <= (1 : Int)) = false from rfl, show decide ((4 : Int) <= (1 : Int)) = false from rfl, show decide ((2 : Int) <= (1 : Int)) = false from rfl, show decide ((0 : Int) < (1 : Int)) = true from rfl]
 simp only [slice, List.set_cons_succ, List.set_cons_zero, List.drop_zero, List.take_succ_cons, List.take_zero, Nat.sub_zero, Option.some.injEq, Prod.mk.injEq, List.cons.injEq, and_true]
 refine ⟨?_, ?_, ?_, ?_, ?_, ?_, ?_, ?_, ?_⟩ <;> exact wY (by omega)
theorem zqQ (N n : Nat) (hN : 10 <= N) (h1 : 1000000000 <= n) (h2 : n < 10000000000) (hm : n < 4294967296) (hd : zq N ((n : Nat) : Int) = some ((10 : Int), ())) : zn N ((n : Nat) : Int) = some ([dgt n 1000000000, dgt n 100000000, dgt n 10000000, dgt n 1000000, dgt n 100000, dgt n 10000, dgt n 1000, dgt n 100, dgt n 10, dgt n 1], ()) := by
 obtain ⟨m, hm2⟩ : ∃ m, N = m + 2 := ⟨N - 2, by omega⟩
 have hl : zd N N = zd N (m + 2) := congrArg _ hm2
 have c0 : decide (((n : Nat) : Int) < 100) = false := by simp; omega
 unfold zn
 simp only [zhf (show n < 18446744073709551616 by omega)]
 simp only [hd, hl, Option.bind_some, c0, cond_false, cond_true, show jV (0 : Int) (10 : Int) 24 = true from rfl, show ((Int.toNat (10 : Int)) - 0 : Nat) = 10 from rfl]
 unfold zd zr
 unfold zd zr
 simp (disch := omega) only [zmP, zhf, zdj, zds, zdw, zdt, zdn, zdq, zhm, zhk, zdf, Int.toNat_natCast, jw, kH, zaU, jl, cond_true, cond_false, Option.bind_some,
  show inb (0 : Int) 10 = true from rfl, show inb (1 : Int) 10 = true from rfl, show inb (2 : Int) 10 = true from rfl, show inb (3 : Int) 10 = true from rfl, show inb (4 : Int) 10 = true from rfl, show inb (5 : Int) 10 = true from rfl, show inb (6 : Int) 10 = true from rfl, show inb (7 : Int) 10 = true from rfl, show inb (8 : Int) 10 = true from rfl, show inb (9 : Int) 10 = true from rfl, show (0 + Int.toNat (0 : Int) : Nat) = 0 from rfl, show (0 + Int.toNat (1 : Int) : Nat) = 1 from rfl, show (0 + Int.toNat (2 : Int) : Nat) = 2 from rfl, show (0 + Int.toNat (3 : Int) : Nat) = 3 from rfl, show (0 + Int.toNat (4 : Int) : Nat) = 4 from rfl, show (0 + Int.toNat (5 : Int) : Nat) = 5 from rfl, show (0 + Int.toNat (6 : Int) : Nat) = 6 from rfl, show (0 + Int.toNat (7 : Int) : Nat) = 7 from rfl, show (0 + Int.toNat (8 : Int) : Nat) = 8 from rfl, show (0 + Int.toNat (9 : Int) : Nat) = 9 from rfl, show (0 + 0 : Nat) = 0 from rfl, show (0 + 10 : Nat) = 10 from rfl, show decide ((8 : Int) <= ((10 : Nat) : Int)) = true from rfl, show IntKind.wrap .i64 (((10 : Nat) : Int) - (1 : Int)) = (9 : Int) from rfl, show IntKind.wrap .i64 (((10 : Nat) : Int) - (2 : Int)) = (8 : Int) from rfl, show IntKind.wrap .i64 (((10 : Nat) : Int) - (3 : Int)) = (7 : Int) from rfl, show IntKind.wrap .i64 (((10 : Nat) : Int) - (4 : Int)) = (6 : Int) from rfl, show IntKind.wrap .i64 (((10 : Nat) : Int) - (5 : Int)) = (5 : Int) from rfl, show IntKind.wrap .i64 (((10 : Nat) : Int) - (6 : Int)) = (4 : Int) from rfl, show IntKind.wrap .i64 (((10 : Nat) : Int) - (7 : Int)) = (3 : Int) from rfl, show IntKind.wrap .i64 (((10 : Nat) : Int) - (8 : Int)) = (2 : Int) from rfl, show decide ((8 : Int) <= (2 : Int)) = false from rfl, show decide ((4 : Int) <= (2 : Int)) = false from rfl, show decide ((2 : Int) <= (2 : Int)) = true from rfl, show IntKind.wrap .i64 ((2 : Int) - (1 : Int)) = (1 : Int) from rfl, show IntKind.wrap .i64 ((2 : Int) - (2 : Int)) = (0 : Int) from rfl, show decide ((0 : Int) < (0 : Int)) = false from rfl]
 simp only [slice, List.set_cons_succ, List.set_cons_zero, List.drop_zero, List.take_succ_cons, List.take_zero, Nat.sub_zero, Option.some.injEq, Prod.mk.injEq, List.cons.injEq, and_true]
 refine ⟨?_, ?_, ?_, ?_, ?_, ?_, ?_, ?_, ?_, ?_⟩ <;> exact wY (by omega)
theorem zlX (n m : Nat) : Int.fdiv ((n : Nat) : Int) ((m : Nat) : Int) = ((n / m : Nat) : Int) := by
 rw [Int.fdiv_eq_ediv_of_nonneg _ (by omega)]; rfl
theorem p8 : ((2 : Int) ^ (min (Int.toNat (8 : Int)) (IntKind.bits .u64))) = ((256 : Nat) : Int) := rfl
theorem p16 : ((2 : Int) ^ (min (Int.toNat (16 : Int)) (IntKind.bits .u64))) = ((65536 : Nat) : Int) := rfl
theorem p18 : ((2 : Int) ^ (min (Int.toNat (18 : Int)) (IntKind.bits .i64))) = ((262144 : Nat) : Int) := rfl
def tL (k : Nat) : Nat := (nth .u8 zmr k).toNat
theorem zlj {k : Nat} (h : k < 256) (h0 : 0 < k) : 2 ^ (tL k - 1) <= k /\ k < 2 ^ tL k /\ 1 <= tL k /\ tL k <= 8 := by
 have key : ((List.range 256).all fun k => k == 0 || (Nat.ble (2 ^ (tL k - 1)) k && (Nat.blt k (2 ^ tL k) && (Nat.ble 1 (tL k) && Nat.ble (tL k) 8)))) = true := by kernel_rfl
 rw [List.all_eq_true] at key
 have := key k (List.mem_range.2 h)
 simp only [Bool.or_eq_true, Bool.and_eq_true, beq_iff_eq, Nat.blt_eq] at this
 rcases this with h1 | ⟨h1, h2, h3, h4⟩
 ·omega
 ·exact ⟨Nat.le_of_ble_eq_true h1, h2, Nat.le_of_ble_eq_true h3, Nat.le_of_ble_eq_true h4⟩
theorem u8n {k : Nat} (h : k < 256) : UInt8.toNat (zao ((k : Nat) : Int)) = k := by
 rw [jl h, UInt8.toNat_ofNat']; omega
theorem zqK (N n : Nat) (h0 : 0 < n) (h : n < 4294967296) : ∃ L : Nat, 1 <= L /\ L <= 32 /\ 2 ^ (L - 1) <= n /\ n < 2 ^ L /\ jm N ((n : Nat) : Int) = some ((L : Int), ()) := by
 have c1 : decide ((4294967296 : Int) <= ((n : Nat) : Int)) = false := by simp; omega
 unfold jm
 simp only [c1, cond_false, p8, p16, zlX]
 have fin : ∀ (b k : Nat), k < 256 -> 0 < k -> b <= 24 -> 2 ^ b * k <= n -> n < 2 ^ b * (k + 1) -> ∃ L : Nat, 1 <= L /\ L <= 32 /\ 2 ^ (L - 1) <= n /\ n < 2 ^ L /\ (some (((b + tL k : Nat) : Int), ()) : Option (Int × Unit)) = some ((L : Int), ()) := by
  intro b k hk hk0 hb h1 h2
  obtain ⟨q1, q2, q3, q4⟩ := zlj hk hk0
  refine ⟨b + tL k, by omega, by omega, ?_, ?_, rfl⟩
  ·rw [show b + tL k - 1 = b + (tL k - 1) by omega, Nat.pow_add]
   exact Nat.le_trans (Nat.mul_le_mul_left _ q1) h1
  ·rw [Nat.pow_add]
   exact Nat.lt_of_lt_of_le h2 (Nat.mul_le_mul_left _ q2)
 have val : ∀ (b k : Nat), k < 256 -> b <= 24 -> 0 < k -> IntKind.wrap .i64 (((b : Nat) : Int) + IntKind.wrap .i64 ((UInt8.toNat (nth .u8 zmr (Int.toNat ((UInt8.toNat (zao ((k : Nat) : Int)) : Nat) : Int))) : Nat) : Int)) = ((b + tL k : Nat) : Int) := by
  intro b k hk hb hk0
  have := zlj hk hk0
  rw [u8n hk, Int.toNat_natCast]
  show IntKind.wrap .i64 (((b : Nat) : Int) + IntKind.wrap .i64 ((tL k : Nat) : Int)) = _
  rw [wri (x := ((tL k : Nat) : Int)) (by omega) (by omega), wri (by omega) (by omega)]; omega
 by_cases a1 : 65536 <= n
 ·have c2 : decide ((65536 : Int) <= ((n : Nat) : Int)) = true := by simp; omega
  simp only [c2, cond_true]
  by_cases a2 : 256 <= n / 65536
  ·have c3 : decide ((256 : Int) <= ((n / 65536 : Nat) : Int)) = true := by simp only [decide_eq_true_eq]; omega
   have hk : n / 65536 / 256 < 256 := by omega
   simp only [c3, cond_true]
   rw [u8n hk, jw hk, cond_true, <- u8n hk]
   have := val 24 (n / 65536 / 256) hk (by omega) (by omega)
   rw [u8n hk] at this |-
   rw [show ((24 : Nat) : Int) = (24 : Int) from rfl] at this
   rw [this]
   exact fin 24 _ hk (by omega) (by omega) (by omega) (by omega)
  ·have c3 : decide ((256 : Int) <= ((n / 65536 : Nat) : Int)) = false := by simp only [decide_eq_false_iff_not]; omega
   have hk : n / 65536 < 256 := by omega
   simp only [c3, cond_false]
   rw [u8n hk, jw hk, cond_true]
   have := val 16 (n / 65536) hk (by omega) (by omega)
   rw [u8n hk, show ((16 : Nat) : Int) = (16 : Int) from rfl] at this
   rw [this]
   exact fin 16 _ hk (by omega) (by omega) (by omega) (by omega)
 ·have c2 : decide ((65536 : Int) <= ((n : Nat) : Int)) = false := by simp; omega
  simp only [c2, cond_false]
  by_cases a2 : 256 <= n
  ·have c3 : decide ((256 : Int) <= ((n : Nat) : Int)) = true := by simp; omega
   have hk : n / 256 < 256 := by omega
   simp only [c3, cond_true]
   rw [u8n hk, jw hk, cond_true]
   have := val 8 (n / 256) hk (by omega) (by omega)
   rw [u8n hk, show ((8 : Nat) : Int) = (8 : Int) from rfl] at this
   rw [this]
   exact fin 8 _ hk (by omega) (by omega) (by omega) (by omega)
  ·have c3 : decide ((256 : Int) <= ((n : Nat) : Int)) = false := by simp; omega
   have hk : n < 256 := by omega
   simp only [c3, cond_false]
   rw [u8n hk, jw hk, cond_true]
   have := val 0 n hk (by omega) (by omega)
   rw [u8n hk, show ((0 : Nat) : Int) = (0 : Int) from rfl] at this
   rw [this]
   exact fin 0 _ hk (by omega) (by omega) (by omega) (by omega)
def zqI : List Int := [1, 10, 100, 1000, 10000, 100000, 1000000, 10000000, 100000000, 1000000000, 10000000000, 100000000000, 1000000000000, 10000000000000, 100000000000000, 1000000000000000, 10000000000000000, 100000000000000000, 1000000000000000000, 10000000000000000000]
def pw (k : Nat) : Int := nth (.int .u64) zqI k
theorem digits (N n : Nat) (h0 : 0 < n) (h : n < 4294967296) : ∃ L : Nat, 1 <= L /\ L <= 32 /\ 2 ^ (L - 1) <= n /\ n < 2 ^ L /\ zq N ((n : Nat) : Int) = some (((L * 78913 / 262144 + (if pw (L * 78913 / 262144) <= (n : Int) then 1 else 0) : Nat) : Int), ()) := by
 obtain ⟨L, h1, h2, h3, h4, h5⟩ := zqK N n h0 h
 refine ⟨L, h1, h2, h3, h4, ?_⟩
 unfold zq jx jz
 simp only [h5, Option.bind_some, p18]
 rw [wri (by omega) (by omega), show ((L : Nat) : Int) * 78913 = ((L * 78913 : Nat) : Int) from rfl, zlX]
 have ht : L * 78913 / 262144 < 20 := by omega
 simp only [jw ht, Bool.and_self, cond_true, Int.toNat_natCast]
 show Option.bind (cond (decide (pw (L * 78913 / 262144) <= (n : Int))) (some ((1 : Int), ())) (some ((0 : Int), ()))) _ = _
 by_cases hc : pw (L * 78913 / 262144) <= (n : Int)
 ·rw [decide_eq_true hc, if_pos hc]
  simp only [cond_true, Option.bind_some]
  rw [wri (by omega) (by omega)]; rfl
 ·rw [decide_eq_false hc, if_neg hc]
  simp only [cond_false, Option.bind_some]
  rw [wri (by omega) (by omega)]; rfl
theorem znN (N n d : Nat) (h0 : 100 <= n) (h : n < 4294967296) (h1 : 3 <= d) (h2 : d <= 10) (h3 : 10 ^ (d - 1) <= n) (h4 : n < 10 ^ d) : zq N ((n : Nat) : Int) = some (((d : Nat) : Int), ()) := by
 obtain ⟨L, q1, q2, q3, q4, q5⟩ := digits N n (by omega) h
 rw [q5]
 clear q5
 have hL : L = 1 \/ L = 2 \/ L = 3 \/ L = 4 \/ L = 5 \/ L = 6 \/ L = 7 \/ L = 8 \/ L = 9 \/ L = 10 \/ L = 11 \/ L = 12 \/ L = 13 \/ L = 14 \/ L = 15 \/ L = 16 \/ L = 17 \/ L = 18 \/ L = 19 \/ L = 20 \/ L = 21 \/ L = 22 \/ L = 23 \/ L = 24 \/ L = 25 \/ L = 26 \/ L = 27 \/ L = 28 \/ L = 29 \/ L = 30 \/ L = 31 \/ L = 32 := by omega
 have hd : d = 3 \/ d = 4 \/ d = 5 \/ d = 6 \/ d = 7 \/ d = 8 \/ d = 9 \/ d = 10 := by omega
 have fin : L * 78913 / 262144 + (if pw (L * 78913 / 262144) <= (n : Int) then 1 else 0) = d := by
  rcases hd with rfl | rfl | rfl | rfl | rfl | rfl | rfl | rfl <;> simp only [Nat.reduceSub, Nat.reducePow] at h3 h4
  all_goals
   rcases hL with rfl | rfl | rfl | rfl | rfl | rfl | rfl | rfl | rfl | rfl | rfl | rfl | rfl | rfl | rfl | rfl | rfl | rfl | rfl | rfl | rfl | rfl | rfl | rfl | rfl | rfl | rfl | rfl | rfl | rfl | rfl | rfl <;> simp only [Nat.reduceSub, Nat.reducePow] at q3 q4 <;> first
    | (exfalso; omega; done)
    | (simp only [Nat.reduceMul, Nat.reduceDiv, show pw 2 = 100 from rfl, show pw 3 = 1000 from rfl, show pw 4 = 10000 from rfl, show pw 5 = 100000 from rfl, show pw 6 = 1000000 from rfl, show pw 7 = 10000000 from rfl, show pw 8 = 100000000 from rfl, show pw 9 = 1000000000 from rfl]; split <;> omega)
 rw [fin]
def zZ : Nat -> Nat -> List UInt8
 | 0, _ => []
 | f + 1, n => if n < 10 then [UInt8.ofNat (48 + n)] else zZ f (n / 10) ++ [UInt8.ofNat (48 + n % 10)]
def dec (n : Nat) : List UInt8 := zZ 10 n
theorem zsh (n : Nat) (h1 : 100 <= n) (h2 : n < 1000) : dec n = [dgt n 100, dgt n 10, dgt n 1] := by
 unfold dec
 rw [show zZ 10 (n) = zZ 9 (n / 10) ++ [UInt8.ofNat (48 + n % 10)] from if_neg (by omega)]
 rw [show zZ 9 (n / 10) = zZ 8 (n / 10 / 10) ++ [UInt8.ofNat (48 + n / 10 % 10)] from if_neg (by omega)]
 rw [show zZ 8 (n / 10 / 10) = [UInt8.ofNat (48 + n / 10 / 10)] from if_pos (by omega)]
 simp only [List.cons_append, List.nil_append, List.cons.injEq, and_true]
 refine ⟨?_, ?_, ?_⟩ <;> exact wY (by omega)
theorem zr1 (n : Nat) (h1 : 1000 <= n) (h2 : n < 10000) : dec n = [dgt n 1000, dgt n 100, dgt n 10, dgt n 1] := by
 unfold dec
 rw [show zZ 10 (n) = zZ 9 (n / 10) ++ [UInt8.ofNat (48 + n % 10)] from if_neg (by omega)]
 rw [show zZ 9 (n / 10) = zZ 8 (n / 10 / 10) ++ [UInt8.ofNat (48 + n / 10 % 10)] from if_neg (by omega)]
 rw [show zZ 8 (n / 10 / 10) = zZ 7 (n / 10 / 10 / 10) ++ [UInt8.ofNat (48 + n / 10 / 10 % 10)] from if_neg (by omega)]
 rw [show zZ 7 (n / 10 / 10 / 10) = [UInt8.ofNat (48 + n / 10 / 10 / 10)] from if_pos (by omega)]
 simp only [List.cons_append, List.nil_append, List.cons.injEq, and_true]
 refine ⟨?_, ?_, ?_, ?_⟩ <;> exact wY (by omega)
theorem zr4 (n : Nat) (h1 : 10000 <= n) (h2 : n < 100000) : dec n = [dgt n 10000, dgt n 1000, dgt n 100, dgt n 10, dgt n 1] := by
 unfold dec
 rw [show zZ 10 (n) = zZ 9 (n / 10) ++ [UInt8.ofNat (48 + n % 10)] from if_neg (by omega)]
 rw [show zZ 9 (n / 10) = zZ 8 (n / 10 / 10) ++ [UInt8.ofNat (48 + n / 10 % 10)] from if_neg (by omega)]
 rw [show zZ 8 (n / 10 / 10) = zZ 7 (n / 10 / 10 / 10) ++ [UInt8.ofNat (48 + n / 10 / 10 % 10)] from if_neg (by omega)]
 rw [show zZ 7 (n / 10 / 10 / 10) = zZ 6 (n / 10 / 10 / 10 / 10) ++ [UInt8.ofNat (48 + n / 10 / 10 / 10 % 10)] from if_neg (by omega)]
 rw [show zZ 6 (n / 10 / 10 / 10 / 10) = [UInt8.ofNat (48 + n / 10 / 10 / 10 / 10)] from if_pos (by omega)]
 simp only [List.cons_append, List.nil_append, List.cons.injEq, and_true]
 refine ⟨?_, ?_, ?_, ?_, ?_⟩ <;> exact wY (by omega)
theorem zrZ (n : Nat) (h1 : 100000 <= n) (h2 : n < 1000000) : dec n = [dgt n 100000, dgt n 10000, dgt n 1000, dgt n 100, dgt n 10, dgt n 1] := by
 unfold dec
 rw [show zZ 10 (n) = zZ 9 (n / 10) ++ [UInt8.ofNat (48 + n % 10)] from if_neg (by omega)]
 rw [show zZ 9 (n / 10) = zZ 8 (n / 10 / 10) ++ [UInt8.ofNat (48 + n / 10 % 10)] from if_neg (by omega)]
 rw [show zZ 8 (n / 10 / 10) = zZ 7 (n / 10 / 10 / 10) ++ [UInt8.ofNat (48 + n / 10 / 10 % 10)] from if_neg (by omega)]
 rw [show zZ 7 (n / 10 / 10 / 10) = zZ 6 (n / 10 / 10 / 10 / 10) ++ [UInt8.ofNat (48 + n / 10 / 10 / 10 % 10)] from if_neg (by omega)]
 rw [show zZ 6 (n / 10 / 10 / 10 / 10) = zZ 5 (n / 10 / 10 / 10 / 10 / 10) ++ [UInt8.ofNat (48 + n / 10 / 10 / 10 / 10 % 10)] from if_neg (by omega)]
 rw [show zZ 5 (n / 10 / 10 / 10 / 10 / 10) = [UInt8.ofNat (48 + n / 10 / 10 / 10 / 10 / 10)] from if_pos (by omega)]
 simp only [List.cons_append, List.nil_append, List.cons.injEq, and_true]
 refine ⟨?_, ?_, ?_, ?_, ?_, ?_⟩ <;> exact wY (by omega)
theorem zrH (n : Nat) (h1 : 1000000 <= n) (h2 : n < 10000000) : dec n = [dgt n 1000000, dgt n 100000, dgt n 10000, dgt n 1000, dgt n 100, dgt n 10, dgt n 1] := by
 unfold dec
 rw [show zZ 10 (n) = zZ 9 (n / 10) ++ [UInt8.ofNat (48 + n % 10)] from if_neg (by omega)]
 rw [show zZ 9 (n / 10) = zZ 8 (n / 10 / 10) ++ [UInt8.ofNat (48 + n / 10 % 10)] from if_neg (by omega)]
 rw [show zZ 8 (n / 10 / 10) = zZ 7 (n / 10 / 10 / 10) ++ [UInt8.ofNat (48 + n / 10 / 10 % 10)] from if_neg (by omega)]
 rw [show zZ 7 (n / 10 / 10 / 10) = zZ 6 (n / 10 / 10 / 10 / 10) ++ [UInt8.ofNat (48 + n / 10 / 10 / 10 % 10)] from if_neg (by omega)]
 rw [show zZ 6 (n / 10 / 10 / 10 / 10) = zZ 5 (n / 10 / 10 / 10 / 10 / 10) ++ [UInt8.ofNat (48 + n / 10 / 10 / 10 / 10 % 10)] from if_neg (by omega)]
 rw [show zZ 5 (n / 10 / 10 / 10 / 10 / 10) = zZ 4 (n / 10 / 10 / 10 / 10 / 10 / 10) ++ [UInt8.ofNat (48 + n / 10 / 10 / 10 / 10 / 10 % 10)] from if_neg (by omega)]
 rw [show zZ 4 (n / 10 / 10 / 10 / 10 / 10 / 10) = [UInt8.ofNat (48 + n / 10 / 10 / 10 / 10 / 10 / 10)] from if_pos (by omega)]
 simp only [List.cons_append, List.nil_append, List.cons.injEq, and_true]
 refine ⟨?_, ?_, ?_, ?_, ?_, ?_, ?_⟩ <;> exact wY (by omega)
theorem zrO (n : Nat) (h1 : 10000000 <= n) (h2 : n < 100000000) : dec n = [dgt n 10000000, dgt n 1000000, dgt n 100000, dgt n 10000, dgt n 1000, dgt n 100, dgt n 10, dgt n 1] := by
 unfold dec
 rw [show zZ 10 (n) = zZ 9 (n / 10) ++ [UInt8.ofNat (48 + n % 10)] from if_neg (by omega)]
 rw [show zZ 9 (n / 10) = zZ 8 (n / 10 / 10) ++ [UInt8.ofNat (48 + n / 10 % 10)] from if_neg (by omega)]
 rw [show zZ 8 (n / 10 / 10) = zZ 7 (n / 10 / 10 / 10) ++ [UInt8.ofNat (48 + n / 10 / 10 % 10)] from if_neg (by omega)]
 rw [show zZ 7 (n / 10 / 10 / 10) = zZ 6 (n / 10 / 10 / 10 / 10) ++ [UInt8.ofNat (48 + n / 10 / 10 / 10 % 10)] from if_neg (by omega)]
 rw [show zZ 6 (n / 10 / 10 / 10 / 10) = zZ 5 (n / 10 / 10 / 10 / 10 / 10) ++ [UInt8.ofNat (48 + n / 10 / 10 / 10 / 10 % 10)] from if_neg (by omega)]
 rw [show zZ 5 (n / 10 / 10 / 10 / 10 / 10) = zZ 4 (n / 10 / 10 / 10 / 10 / 10 / 10) ++ [UInt8.ofNat (48 + n / 10 / 10 / 10 / 10 / 10 % 10)] from if_neg (by omega)]
 rw [show zZ 4 (n / 10 / 10 / 10 / 10 / 10 / 10) = zZ 3 (n / 10 / 10 / 10 / 10 / 10 / 10 / 10) ++ [UInt8.ofNat (48 + n / 10 / 10 / 10 / 10 / 10 / 10 % 10)] from if_neg (by omega)]
 rw [show zZ 3 (n / 10 / 10 / 10 / 10 / 10 / 10 / 10) = [UInt8.ofNat (48 + n / 10 / 10 / 10 / 10 / 10 / 10 / 10)] from if_pos (by omega)]
 simp only [List.cons_append, List.nil_append, List.cons.injEq, and_true]
 refine ⟨?_, ?_, ?_, ?_, ?_, ?_, ?_, ?_⟩ <;> exact wY (by omega)
theorem zrM (n : Nat) (h1 : 100000000 <= n) (h2 : n < 1000000000) : dec n = [dgt n 100000000, dgt n 10000000, dgt n 1000000, dgt n 100000, dgt n 10000, dgt n 1000, dgt n 100, dgt n 10, dgt n 1] := by
 unfold dec
 rw [show zZ 10 (n) = zZ 9 (n / 10) ++ [UInt8.ofNat (48 + n % 10)] from if_neg (by omega)]
 rw [show zZ 9 (n / 10) = zZ 8 (n / 10 / 10) ++ [UInt8.ofNat (48 + n / 10 % 10)] from if_neg (by omega)]
 rw [show zZ 8 (n / 10 / 10) = zZ 7 (n / 10 / 10 / 10) ++ [UInt8.ofNat (48 + n / 10 / 10 % 10)] from if_neg (by omega)]
 rw [show zZ 7 (n / 10 / 10 / 10) = zZ 6 (n / 10 / 10 / 10 / 10) ++ [UInt8.ofNat (48 + n / 10 / 10 / 10 % 10)] from if_neg (by omega)]
 rw [show zZ 6 (n / 10 / 10 / 10 / 10) = zZ 5 (n / 10 / 10 / 10 / 10 / 10) ++ [UInt8.ofNat (48 + n / 10 / 10 / 10 / 10 % 10)] from if_neg (by omega)]
 rw [show zZ 5 (n / 10 / 10 / 10 / 10 / 10) = zZ 4 (n / 10 / 10 / 10 / 10 / 10 / 10) ++ [UInt8.ofNat (48 + n / 10 / 10 / 10 / 10 / 10 % 10)] from if_neg (by omega)]
 rw [show zZ 4 (n / 10 / 10 / 10 / 10 / 10 / 10) = zZ 3 (n / 10 / 10 / 10 / 10 / 10 / 10 / 10) ++ [UInt8.ofNat (48 + n / 10 / 10 / 10 / 10 / 10 / 10 % 10)] from if_neg (by omega)]
 rw [show zZ 3 (n / 10 / 10 / 10 / 10 / 10 / 10 / 10) = zZ 2 (n / 10 / 10 / 10 / 10 / 10 / 10 / 10 / 10) ++ [UInt8.ofNat (48 + n / 10 / 10 / 10 / 10 / 10 / 10 / 10 % 10)] from if_neg (by omega)]
 rw [show zZ 2 (n / 10 / 10 / 10 / 10 / 10 / 10 / 10 / 10) = [UInt8.ofNat (48 + n / 10 / 10 / 10 / 10 / 10 / 10 / 10 / 10)] from if_pos (by omega)]
 simp only [List.cons_append, List.nil_append, List.cons.injEq, and_true]
 refine ⟨?_, ?_, ?_, ?_, ?_, ?_, ?_, ?_, ?_⟩ <;> exact wY (by omega)
theorem zqM (n : Nat) (h1 : 1000000000 <= n) (h2 : n < 10000000000) : dec n = [dgt n 1000000000, dgt n 100000000, dgt n 10000000, dgt n 1000000, dgt n 100000, dgt n 10000, dgt n 1000, dgt n 100, dgt n 10, dgt n 1] := by
 unfold dec
 rw [show zZ 10 (n) = zZ 9 (n / 10) ++ [UInt8.ofNat (48 + n % 10)] from if_neg (by omega)]
 rw [show zZ 9 (n / 10) = zZ 8 (n / 10 / 10) ++ [UInt8.ofNat (48 + n / 10 % 10)] from if_neg (by omega)]
 rw [show zZ 8 (n / 10 / 10) = zZ 7 (n / 10 / 10 / 10) ++ [UInt8.ofNat (48 + n / 10 / 10 % 10)] from if_neg (by omega)]
 rw [show zZ 7 (n / 10 / 10 / 10) = zZ 6 (n / 10 / 10 / 10 / 10) ++ [UInt8.ofNat (48 + n / 10 / 10 / 10 % 10)] from if_neg (by omega)]
 rw [show zZ 6 (n / 10 / 10 / 10 / 10) = zZ 5 (n / 10 / 10 / 10 / 10 / 10) ++ [UInt8.ofNat (48 + n / 10 / 10 / 10 / 10 % 10)] from if_neg (by omega)]
 rw [show zZ 5 (n / 10 / 10 / 10 / 10 / 10) = zZ 4 (n / 10 / 10 / 10 / 10 / 10 / 10) ++ [UInt8.ofNat (48 + n / 10 / 10 / 10 / 10 / 10 % 10)] from if_neg (by omega)]
 rw [show zZ 4 (n / 10 / 10 / 10 / 10 / 10 / 10) = zZ 3 (n / 10 / 10 / 10 / 10 / 10 / 10 / 10) ++ [UInt8.ofNat (48 + n / 10 / 10 / 10 / 10 / 10 / 10 % 10)] from if_neg (by omega)]
 rw [show zZ 3 (n / 10 / 10 / 10 / 10 / 10 / 10 / 10) = zZ 2 (n / 10 / 10 / 10 / 10 / 10 / 10 / 10 / 10) ++ [UInt8.ofNat (48 + n / 10 / 10 / 10 / 10 / 10 / 10 / 10 % 10)] from if_neg (by omega)]
 rw [show zZ 2 (n / 10 / 10 / 10 / 10 / 10 / 10 / 10 / 10) = zZ 1 (n / 10 / 10 / 10 / 10 / 10 / 10 / 10 / 10 / 10) ++ [UInt8.ofNat (48 + n / 10 / 10 / 10 / 10 / 10 / 10 / 10 / 10 % 10)] from if_neg (by omega)]
 rw [show zZ 1 (n / 10 / 10 / 10 / 10 / 10 / 10 / 10 / 10 / 10) = [UInt8.ofNat (48 + n / 10 / 10 / 10 / 10 / 10 / 10 / 10 / 10 / 10)] from if_pos (by omega)]
 simp only [List.cons_append, List.nil_append, List.cons.injEq, and_true]
 refine ⟨?_, ?_, ?_, ?_, ?_, ?_, ?_, ?_, ?_, ?_⟩ <;> exact wY (by omega)
theorem zlP (N : Nat) {n : Nat} (h : n < 100) : jK N ((n : Nat) : Int) = some (dec n, ()) := by
 have key : ((List.range 100).all fun n => decide (jK 0 ((n : Nat) : Int) = some (dec n, ()))) = true := by kernel_rfl
 rw [List.all_eq_true] at key
 exact of_decide_eq_true (key n (List.mem_range.2 h))
theorem zoP (N n : Nat) (hN : 10 <= N) (h : n < 4294967296) : zn N ((n : Nat) : Int) = some (dec n, ()) := by
 by_cases h0 : n < 100
 ·have c0 : decide (((n : Nat) : Int) < 100) = true := by simp; omega
  unfold zn
  simp only [zhf (show n < 18446744073709551616 by omega), c0, cond_true]
  rw [wri (by omega) (by omega), zlP N h0]; rfl
 ·rcases (show (100 <= n /\ n < 1000) \/ (1000 <= n /\ n < 10000) \/ (10000 <= n /\ n < 100000) \/ (100000 <= n /\ n < 1000000) \/ (1000000 <= n /\ n < 10000000) \/ (10000000 <= n /\ n < 100000000) \/ (100000000 <= n /\ n < 1000000000) \/ (1000000000 <= n /\ n < 10000000000) by omega) with ⟨h1, h2⟩ | ⟨h1, h2⟩ | ⟨h1, h2⟩ | ⟨h1, h2⟩ | ⟨h1, h2⟩ | ⟨h1, h2⟩ | ⟨h1, h2⟩ | ⟨h1, h2⟩
  ·rw [zsh n h1 h2]; exact zso N n hN h1 h2 h (znN N n 3 (by omega) h (by omega) (by omega) h1 h2)
  ·rw [zr1 n h1 h2]; exact zrP N n hN h1 h2 h (znN N n 4 (by omega) h (by omega) (by omega) h1 h2)
  ·rw [zr4 n h1 h2]; exact zrS N n hN h1 h2 h (znN N n 5 (by omega) h (by omega) (by omega) h1 h2)
  ·rw [zrZ n h1 h2]; exact zr8 N n hN h1 h2 h (znN N n 6 (by omega) h (by omega) (by omega) h1 h2)
  ·rw [zrH n h1 h2]; exact zrI N n hN h1 h2 h (znN N n 7 (by omega) h (by omega) (by omega) h1 h2)
  ·rw [zrO n h1 h2]; exact zsk N n hN h1 h2 h (znN N n 8 (by omega) h (by omega) (by omega) h1 h2)
  ·rw [zrM n h1 h2]; exact zrJ N n hN h1 h2 h (znN N n 9 (by omega) h (by omega) (by omega) h1 h2)
  ·rw [zqM n h1 h2]; exact zqQ N n hN h1 h2 h (znN N n 10 (by omega) h (by omega) (by omega) h1 h2)
theorem znx (N n : Nat) (hN : 10 <= N) (h : n < 4294967296) : zn N ((n : Nat) : Int) = some (dec n, ()) := by
 exact zoP N n hN h
def zn7 : Nat -> List UInt8 -> Option Nat
 | acc, [] => some acc
 | acc, c :: r => if 48 <= c.toNat /\ c.toNat <= 57 then zn7 (acc * 10 + (c.toNat - 48)) r else none
theorem zlK : ∀ (l : List UInt8) (acc v : Nat), zn7 acc l = some v -> acc <= v
 | [], acc, v, h => by cases h; omega
 | c :: r, acc, v, h => by
  unfold zn7 at h
  split at h
  ·have := zlK r _ v h; omega
  ·cases h
theorem zn8 (M : Nat) (hM : M < 1844674407370955162) : ∀ (l : List UInt8) (acc v : Nat), acc <= M -> zn7 acc l = some v -> v <= M -> Go.Lib.parseUintM M acc l = .ok v
 | [], acc, v, ha, h, hv => by cases h; rfl
 | c :: r, acc, v, ha, h, hv => by
  unfold zn7 at h
  split at h
  ·rename_i hc
   have := zlK r _ v h
   unfold Go.Lib.parseUintM
   rw [if_pos hc, if_neg (by omega), if_neg (by omega)]
   exact zn8 M hM r _ v (by omega) h hv
  ·cases h
theorem zn6 (M : Nat) : ∀ (l : List UInt8) (acc v : Nat), acc <= M -> Go.Lib.parseUintM M acc l = .ok v -> zn7 acc l = some v /\ v <= M
 | [], acc, v, ha, h => by cases h; exact ⟨rfl, ha⟩
 | c :: r, acc, v, ha, h => by
  unfold Go.Lib.parseUintM at h
  split at h
  ·rename_i hc
   split at h
   ·cases h
   ·split at h
    ·cases h
    ·unfold zn7
     rw [if_pos hc]
     exact zn6 M r _ v (by omega) h
  ·cases h
def zgL (s : List UInt8) : Option Nat := match zn7 0 s with
 | some v => if v <= 4294967295 /\ dec v = s then some v else none
 | none => none
def zqH (s : List UInt8) : Option (Int × Bool × Unit) := some (match zgL s with
 | some v => (((v : Nat) : Int), true, ())
 | none => (0, false, ()))
theorem zoW {s : List UInt8} {v : Nat} (h : zgL s = some v) : v <= 4294967295 := by
 unfold zgL at h
 split at h
 ·split at h
  ·rename_i hc; cases h; exact hc.1
  ·cases h
 ·cases h
theorem zja (N : Nat) (hN : 10 <= N) (s : List UInt8) (hs : s.length <= 100000) : jP N s = zqH s := by
 unfold jP zqH
 have hb : Nat.ble (List.length s) zkf = true := by rw [Nat.ble_eq]; unfold zkf; omega
 simp only [hb, cond_true]
 have bad : zgL s = none -> some ((0 : Int), false, ()) = some (match zgL s with
  | some v => (((v : Nat) : Int), true, ())
  | none => (0, false, ())) := fun h => by rw [h]
 rcases hp : Go.Lib.parseUintB 32 s with u | _ | _
 ·unfold Go.Lib.parseUintB at hp
  split at hp
  ·cases hp
  ·obtain ⟨h1, h2⟩ := zn6 _ s 0 u (by omega) hp
   have h2 : u <= 4294967295 := h2
   simp only [zkJ]
   rw [zmP (by omega), znx N u hN (by omega)]
   simp only [Option.bind_some]
   unfold zgL
   simp only [h1]
   cases hd : dec u != s with
   | true =>
    have hd' : ¬ dec u = s := by simpa using hd
    rw [if_neg (fun h => hd' h.2)]; rfl
   | false =>
    have hd' : dec u = s := by simpa using hd
    rw [if_pos ⟨h2, hd'⟩]; rfl
 ·refine bad ?_
  unfold zgL
  split
  ·rename_i v hv
   rw [if_neg]
   intro ⟨h1, h2⟩
   unfold Go.Lib.parseUintB at hp
   split at hp
   ·rename_i he
    subst he
    have : (dec v).length = 0 := by rw [h2]; rfl
    unfold dec zZ at this
    split at this <;> simp at this
   ·rw [zn8 _ (by decide) s 0 v (by omega) hv h1] at hp; cases hp
  ·rfl
 ·refine bad ?_
  unfold zgL
  split
  ·rename_i v hv
   rw [if_neg]
   intro ⟨h1, h2⟩
   unfold Go.Lib.parseUintB at hp
   split at hp
   ·cases hp
   ·rw [zn8 _ (by decide) s 0 v (by omega) hv h1] at hp; cases hp
  ·rfl
def posOf (c : UInt8) : List UInt8 -> Option Nat
 | [] => none
 | x :: l => if x == c then some 0 else match posOf c l with
  | some i => some (i + 1)
  | none => none
theorem zew (c : UInt8) : ∀ (l : List UInt8) (k : Nat), qR c l k = match posOf c l with
  | some i => ((k + i : Nat) : Int)
  | none => -1
 | [], k => rfl
 | x :: l, k => by
  unfold posOf
  simp only [qR]
  cases x == c with
  | true => simp
  | false =>
   simp only [Bool.false_eq_true, if_false]
   rw [zew c l (k + 1)]
   cases posOf c l with
   | none => rfl
   | some i => simp only; congr 1; omega
theorem xC {c : UInt8} : ∀ {l : List UInt8} {i : Nat}, posOf c l = some i -> i < l.length /\ l[i]? = some c /\ ∀ j : Nat, j < i -> l[j]? ≠ some c
 | [], i, h => by cases h
 | x :: l, i, h => by
  unfold posOf at h
  cases hx : x == c with
  | true =>
   simp only [hx, if_true] at h
   cases h
   rw [beq_iff_eq] at hx
   subst hx
   exact ⟨by simp, rfl, fun j hj => by omega⟩
  | false =>
   have hx' : ¬ x = c := by simpa using hx
   simp only [hx, Bool.false_eq_true, if_false] at h
   split at h
   ·rename_i i' hi
    cases h
    obtain ⟨h1, h2, h3⟩ := xC hi
    refine ⟨by simpa using h1, by simpa using h2, fun j hj => ?_⟩
    cases j with
    | zero => simpa using hx'
    | succ j => simpa using h3 j (by omega)
   ·cases h
theorem zge {α : Type} (l : List α) (a : Nat) : ze l a = l.drop a := by
 unfold ze; rw [Int.toNat_natCast]; exact xG
theorem zin {α : Type} {a : Nat} {l : List α} (h : a <= l.length) : qc ((a : Nat) : Int) l = true := xQ h (Nat.le_refl _)
theorem znw (N : Nat) (l : List UInt8) (h : l.length <= 100000) : zV N l = some (l, ()) := by
 unfold zV
 rw [zgr (by omega)]; rfl
def zqR (b : List UInt8) (i : Nat) : Option ((List UInt8) × Int × Bool × Unit) := match posOf 125 (b.drop (i + 1)) with
 | none => some ([], 0, false, ())
 | some k => match zgL (slice b (i + 1) (i + 1 + k)) with
  | none => some ([], 0, false, ())
  | some n => if n <= 65536 /\ b[i + 1 + k + 1]? = some 13 /\ b[i + 1 + k + 2]? = some 10 /\ i + 1 + k + 3 + n <= b.length then some (slice b (i + 1 + k + 3) (i + 1 + k + 3 + n), ((i + 1 + k + 3 + n : Nat) : Int), true, ()) else some ([], 0, false, ())
theorem zb0 {α : Type} {l : List α} {a b : Nat} : (slice l a b).length <= l.length := by
 unfold slice; rw [List.length_take, List.length_drop]; omega
theorem zmV (N : Nat) (b : List UInt8) (hb : b.length <= 20000) (hN : 10 <= N) (i : Nat) (hi : i < b.length) (hc : b[i] = 123) : qK N b (i : Int) = zqR b i := by
 unfold qK zqR qC
 have d0 : decide ((i : Int) < 0) = false := by simp
 have d1 : decide (((b.length : Nat) : Int) <= (i : Int)) = false := by simp; omega
 have w1 : IntKind.wrap .i64 ((i : Int) + 1) = ((i + 1 : Nat) : Int) := by rw [wri (by omega) (by omega)]; omega
 have w2 : IntKind.wrap .i64 (((i + 1 : Nat) : Int) - 1) = (i : Int) := by rw [wri (by omega) (by omega)]; omega
 have hbe : qc ((i + 1 : Nat) : Int) b = true := zin (by omega)
 simp only [d0, d1, cond_false, w1, w2, jw hi, cond_true, Int.toNat_natCast, zaY (u := .u8) hi, hc, show ((123 : UInt8) == 123) = true from rfl, Bool.not_true, hbe, Bool.and_true, zge, zew, Option.bind_some]
 cases hp : posOf 125 (b.drop (i + 1)) with
 | none => simp only [show decide ((-1 : Int) < 0) = true from rfl, cond_true]
 | some k =>
  obtain ⟨q1, q2, q3⟩ := xC hp
  rw [List.length_drop] at q1
  have w3 : IntKind.wrap .i64 (((k : Nat) : Int) + 1) = ((k + 1 : Nat) : Int) := by rw [wri (by omega) (by omega)]; omega
  have w4 : IntKind.wrap .i64 (((i + 1 : Nat) : Int) + ((k : Nat) : Int)) = ((i + 1 + k : Nat) : Int) := by rw [wri (by omega) (by omega)]; omega
  have w5 : IntKind.wrap .i64 (((i + 1 : Nat) : Int) + ((k + 1 : Nat) : Int)) = ((i + 1 + k + 1 : Nat) : Int) := by rw [wri (by omega) (by omega)]; omega
  have d2 : decide (((k : Nat) : Int) < 0) = false := by simp
  have hb2 : jV ((i + 1 : Nat) : Int) ((i + 1 + k : Nat) : Int) b.length = true := xQ (by omega) (by omega)
  simp only [Nat.zero_add, d2, cond_false, w3, w4, w5, hb2, cond_true, Int.toNat_natCast]
  rw [zja N hN _ (Nat.le_trans zb0 (by omega))]
  unfold zqH
  have hj : i + 1 + k < b.length := by omega
  generalize i + 1 + k = j at hj |-
  simp only [Option.bind_some]
  cases hn : zgL (slice b (i + 1) j) with
  | none => rfl
  | some n =>
   have hn2 := zoW hn
   simp only [Bool.not_true, cond_false]
   by_cases c1 : n <= 65536
   ·have e1 : decide ((65536 : Int) < ((n : Nat) : Int)) = false := by simp; omega
    have d3 : decide (((j + 1 : Nat) : Int) < 0) = false := by simp; omega
    simp only [e1, cond_false, d3]
    by_cases c2 : j + 1 < b.length
    ·have e2 : decide (((b.length : Nat) : Int) <= ((j + 1 : Nat) : Int)) = false := by simp; omega
     have w6 : IntKind.wrap .i64 (((j + 1 : Nat) : Int) + 1) = ((j + 2 : Nat) : Int) := by rw [wri (by omega) (by omega)]; omega
     have w7 : IntKind.wrap .i64 (((j + 2 : Nat) : Int) - 1) = ((j + 1 : Nat) : Int) := by rw [wri (by omega) (by omega)]; omega
     have d4 : decide (((j + 2 : Nat) : Int) < 0) = false := by simp; omega
     simp only [e2, cond_false, w6, w7, jw c2, cond_true, Int.toNat_natCast, zaY (u := .u8) c2, List.getElem?_eq_getElem c2, Option.some.injEq, d4]
     cases h13 : b[j + 1] == (13 : UInt8) with
     | false =>
      have h13' : ¬ b[j + 1] = 13 := by simpa using h13
      simp only [Bool.not_false, cond_true]
      rw [if_neg (fun h => h13' h.2.1)]
     | true =>
      have h13' : b[j + 1] = 13 := by simpa using h13
      simp only [Bool.not_true, cond_false, h13', true_and]
      by_cases c3 : j + 2 < b.length
      ·have e3 : decide (((b.length : Nat) : Int) <= ((j + 2 : Nat) : Int)) = false := by simp; omega
       have w8 : IntKind.wrap .i64 (((j + 2 : Nat) : Int) + 1) = ((j + 3 : Nat) : Int) := by rw [wri (by omega) (by omega)]; omega
       have w9 : IntKind.wrap .i64 (((j + 3 : Nat) : Int) - 1) = ((j + 2 : Nat) : Int) := by rw [wri (by omega) (by omega)]; omega
       have w10 : IntKind.wrap .i64 ((n : Nat) : Int) = ((n : Nat) : Int) := wri (by omega) (by omega)
       have w11 : IntKind.wrap .i64 (((j + 3 : Nat) : Int) + ((n : Nat) : Int)) = ((j + 3 + n : Nat) : Int) := by rw [wri (by omega) (by omega)]; omega
       have w12 : IntKind.wrap .i64 (((b.length : Nat) : Int) - ((j + 3 : Nat) : Int)) = ((b.length : Nat) : Int) - ((j + 3 : Nat) : Int) := wri (by omega) (by omega)
       simp only [e3, cond_false, w8, w9, jw c3, cond_true, Int.toNat_natCast, zaY (u := .u8) c3, List.getElem?_eq_getElem c3, Option.some.injEq, w10, w11, w12]
       cases h10 : b[j + 2] == (10 : UInt8) with
       | false =>
        have h10' : ¬ b[j + 2] = 10 := by simpa using h10
        simp only [Bool.not_false, cond_true]
        rw [if_neg (fun h => h10' h.2.1)]
       | true =>
        have h10' : b[j + 2] = 10 := by simpa using h10
        simp only [Bool.not_true, cond_false, h10', true_and]
        by_cases c4 : j + 3 + n <= b.length
        ·have e4 : decide (((b.length : Nat) : Int) - ((j + 3 : Nat) : Int) < ((n : Nat) : Int)) = false := by simp only [decide_eq_false_iff_not]; omega
         have hb3 : jV ((j + 3 : Nat) : Int) ((j + 3 + n : Nat) : Int) b.length = true := xQ (by omega) (by omega)
         simp only [e4, cond_false, hb3, cond_true]
         rw [znw N _ (Nat.le_trans zb0 (by omega)), if_pos ⟨c1, c4⟩]; rfl
        ·have e4 : decide (((b.length : Nat) : Int) - ((j + 3 : Nat) : Int) < ((n : Nat) : Int)) = true := by simp only [decide_eq_true_eq]; omega
         simp only [e4, cond_true]
         rw [if_neg (fun h => c4 h.2)]
      ·have e3 : decide (((b.length : Nat) : Int) <= ((j + 2 : Nat) : Int)) = true := by simp; omega
       have n3 : b[j + 2]? = none := List.getElem?_eq_none (by omega)
       simp only [e3, cond_true, n3]
       rw [if_neg (fun h => by cases h.2.1)]
    ·have e2 : decide (((b.length : Nat) : Int) <= ((j + 1 : Nat) : Int)) = true := by simp; omega
     have n2 : b[j + 1]? = none := List.getElem?_eq_none (by omega)
     simp only [e2, cond_true, n2]
     rw [if_neg (fun h => by cases h.2.1)]
   ·have e1 : decide ((65536 : Int) < ((n : Nat) : Int)) = true := by simp; omega
    simp only [e1, cond_true]
    rw [if_neg (fun h => c1 h.1)]
abbrev Tok := Int × (List UInt8 × Int)
def j7 (b : List UInt8) (i : Nat) : Option (Tok × Nat) :=
 match b[i]? with
 | none => some ((0, [], (i : Int)), i)
 | some c =>
  if c = 32 then some ((1, [], (i : Int)), i + 1)
  else if c = 40 then some ((2, [], (i : Int)), i + 1)
  else if c = 41 then some ((3, [], (i : Int)), i + 1)
  else if c = 34 then match sq (b.drop (i + 1)) with
   | some (r, n) => some ((5, r, (i : Int)), i + 1 + n)
   | none => none
  else if c = 123 then match posOf 125 (b.drop (i + 1)) with
   | none => none
   | some k => match zgL (slice b (i + 1) (i + 1 + k)) with
    | none => none
    | some n => if n <= 65536 /\ b[i + 1 + k + 1]? = some 13 /\ b[i + 1 + k + 2]? = some 10 /\ i + 1 + k + 3 + n <= b.length then some ((6, slice b (i + 1 + k + 3) (i + 1 + k + 3 + n), (i : Int)), i + 1 + k + 3 + n) else none
  else if 0 < run jW (b.drop i) then some ((4, slice b i (i + run jW (b.drop i)), (i : Int)), i + run jW (b.drop i))
  else none
theorem zjr {b : List UInt8} {i n : Nat} {t : Tok} (hi : i < b.length) (h : j7 b i = some (t, n)) : i < n /\ n <= b.length := by
 unfold j7 at h
 rw [List.getElem?_eq_getElem hi] at h
 simp only at h
 split at h
 ·cases h; omega
 ·split at h
  ·cases h; omega
  ·split at h
   ·cases h; omega
   ·split at h
    ·split at h
     ·rename_i r k hr
      have := zjy _ hr
      rw [List.length_drop] at this
      cases h; omega
     ·cases h
    ·split at h
     ·split at h
      ·cases h
      ·rename_i k hk
       split at h
       ·cases h
       ·split at h
        ·rename_i hc
         cases h; omega
        ·cases h
     ·split at h
      ·have := zgW jW (b.drop i)
       rw [List.length_drop] at this
       cases h; omega
      ·cases h
theorem zoC {b : List UInt8} {i : Nat} (hi : i < b.length) (hc : b[i] = 34) : zqy b i = match sq (b.drop (i + 1)) with
  | some (r, n) => some (r, ((i + 1 + n : Nat) : Int), true, ())
  | none => some ([], 0, false, ()) := by
 unfold zqy
 rw [List.getElem?_eq_getElem hi, hc, if_pos rfl]
 cases sq (b.drop (i + 1)) with
 | none => rfl
 | some p => obtain ⟨r, n⟩ := p; rfl
theorem zqp (N : Nat) (b : List UInt8) (hb : b.length <= 20000) (i : Nat) : ∀ (m p : Nat), p <= b.length -> b.length < m + p ->
  zW N m ((i : Nat) : Int) b ((p : Nat) : Int) = some (((i : Nat) : Int), b, ((p + run jW (b.drop p) : Nat) : Int))
 | 0, p, h, h' => by omega
 | m + 1, p, h, h' => by
  unfold zW wZ
  by_cases hi : p < b.length
  ·simp only [zmv hi, cond_true, jw hi, Int.toNat_natCast, zaY (u := .u8) hi, zqZ, Option.bind_some, drop_one hi, run]
   cases hc : jW b[p] with
   | true =>
    simp only [cond_true, if_true]
    rw [wri (by omega) (by omega), show ((p : Int) + 1) = ((p + 1 : Nat) : Int) by omega, zqp N b hb i m (p + 1) (by omega) (by omega)]
    congr 4; omega
   | false => simp
  ·simp only [zmx hi, cond_false]
   rw [List.drop_eq_nil_of_le (by omega)]
   simp [run]
def zaZ (b : List UInt8) : Nat -> Nat -> List Tok ⊕ Nat
 | 0, i => .inr i
 | f + 1, i => match j7 b i with
  | none => .inr i
  | some (t, n) => if b.length <= i then .inl [t] else match zaZ b f n with
   | .inl l => .inl (t :: l)
   | .inr a => .inr a
theorem zqO {b : List UInt8} {i n : Nat} {t : Tok} (h : j7 b i = some (t, n)) : t.1 = 0 ↔ b.length <= i := by
 unfold j7 at h
 by_cases hi : i < b.length
 ·rw [List.getElem?_eq_getElem hi] at h
  simp only at h
  constructor
  ·intro h0
   exfalso
   split at h
   ·cases h; simp at h0
   ·split at h
    ·cases h; simp at h0
    ·split at h
     ·cases h; simp at h0
     ·split at h
      ·split at h <;> cases h; simp at h0
      ·split at h
       ·split at h
        ·cases h
        ·split at h
         ·cases h
         ·split at h <;> cases h; simp at h0
       ·split at h <;> cases h; simp at h0
  ·intro; omega
 ·rw [List.getElem?_eq_none (by omega)] at h
  cases h
  exact ⟨fun _ => by omega, fun _ => rfl⟩
def zqN (o : List Tok ⊕ Nat) : Option ((List Tok) × Int × Unit) := some (match o with
 | .inl l => (l, -1, ())
 | .inr a => ([], ((a : Nat) : Int), ()))
theorem znW (N : Nat) (b : List UInt8) (hb : b.length <= 20000) (hN : 20 <= N) (hN2 : b.length < N) : ∀ (m i : Nat) (out : List Tok), i <= b.length -> out.length <= i -> b.length < m + i ->
  (∀ l, zaZ b m i = .inl l -> ∃ x y, zG N m b ((i : Nat) : Int) out = some (Sum.inl (x, y, out ++ l))) /\ (∀ a, zaZ b m i = .inr a -> ∃ x y z, zG N m b ((i : Nat) : Int) out = some (Sum.inr (((a : Nat) : Int), x, y, z)))
 | 0, i, out, h, ho, h' => by omega
 | m + 1, i, out, h, ho, h' => by
  unfold zG wX zaZ
  have recu : ∀ (t : Tok) (n : Nat), j7 b i = some (t, n) -> i < b.length -> (∀ l, (match j7 b i with
    | none => .inr i
    | some (t, n) => if b.length <= i then .inl [t] else match zaZ b m n with
     | .inl l => .inl (t :: l)
     | .inr a => .inr a : List Tok ⊕ Nat) = .inl l -> ∃ x y, zG N m b ((n : Nat) : Int) (out ++ [t]) = some (Sum.inl (x, y, out ++ l))) /\ (∀ a, (match j7 b i with
    | none => .inr i
    | some (t, n) => if b.length <= i then .inl [t] else match zaZ b m n with
     | .inl l => .inl (t :: l)
     | .inr a => .inr a : List Tok ⊕ Nat) = .inr a -> ∃ x y z, zG N m b ((n : Nat) : Int) (out ++ [t]) = some (Sum.inr (((a : Nat) : Int), x, y, z))) := by
   intro t n hn hlt
   have hl := zjr hlt hn
   obtain ⟨q1, q2⟩ := znW N b hb hN hN2 m n (out ++ [t]) (by omega) (by simp; omega) (by omega)
   rw [hn]
   simp only [if_neg (show ¬ b.length <= i by omega)]
   cases hr : zaZ b m n with
   | inl l =>
    obtain ⟨x, y, h3⟩ := q1 l hr
    exact ⟨fun l' h => by cases h; exact ⟨x, y, by rw [h3, List.append_assoc]; rfl⟩, fun a h => by cases h⟩
   | inr a =>
    obtain ⟨x, y, z, h3⟩ := q2 a hr
    exact ⟨fun l' h => (by cases h), fun a' h => by cases h; exact ⟨x, y, z, h3⟩⟩
  have stop : j7 b i = none -> ∀ (x : List UInt8) (y : Int) (z : List Tok), (∀ l, (match j7 b i with
    | none => .inr i
    | some (t, n) => if b.length <= i then .inl [t] else match zaZ b m n with
     | .inl l => .inl (t :: l)
     | .inr a => .inr a : List Tok ⊕ Nat) = .inl l -> ∃ x' y', (some (Sum.inr (((i : Nat) : Int), x, y, z)) : Option ((List UInt8 × Int × List Tok) ⊕ (Int × List UInt8 × Int × List Tok))) = some (Sum.inl (x', y', out ++ l))) /\ (∀ a, (match j7 b i with
    | none => .inr i
    | some (t, n) => if b.length <= i then .inl [t] else match zaZ b m n with
     | .inl l => .inl (t :: l)
     | .inr a => .inr a : List Tok ⊕ Nat) = .inr a -> ∃ x' y' z', (some (Sum.inr (((i : Nat) : Int), x, y, z)) : Option ((List UInt8 × Int × List Tok) ⊕ (Int × List UInt8 × Int × List Tok))) = some (Sum.inr (((a : Nat) : Int), x', y', z'))) := by
   intro hn x y z
   rw [hn]
   exact ⟨fun l h => (by cases h), fun a h => by cases h; exact ⟨_, _, _, rfl⟩⟩
  by_cases he : i = b.length
  ·subst he
   have hn : j7 b b.length = some ((0, [], ((b.length : Nat) : Int)), b.length) := by unfold j7; rw [List.getElem?_eq_none (Nat.le_refl _)]
   rw [hn]
   simp only [show (((b.length : Nat) : Int) == ((b.length : Nat) : Int)) = true from beq_self_eq_true _, cond_true, zgr (show out.length + 1 <= 200000 by omega), Nat.le_refl, if_true]
   exact ⟨fun l h => by cases h; exact ⟨_, _, rfl⟩, fun a h => by cases h⟩
  ·have hlt : i < b.length := by omega
   have e : (((i : Nat) : Int) == ((b.length : Nat) : Int)) = false := by simp; omega
   have w1 : IntKind.wrap .i64 ((i : Int) + 1) = ((i + 1 : Nat) : Int) := by rw [wri (by omega) (by omega)]; omega
   have hg : b[i]? = some b[i] := List.getElem?_eq_getElem hlt
   simp only [e, cond_false, jw hlt, cond_true, Int.toNat_natCast, zaY (u := .u8) hlt, w1, zgr (show out.length + 1 <= 200000 by omega)]
   cases h1 : b[i] == (32 : UInt8) with
   | true =>
    rw [beq_iff_eq] at h1
    exact recu _ _ (by unfold j7; rw [hg]; simp only [h1, if_true]) hlt
   | false =>
    have h1' : ¬ b[i] = 32 := by simpa using h1
    cases h2 : b[i] == (40 : UInt8) with
    | true =>
     rw [beq_iff_eq] at h2
     exact recu _ _ (by unfold j7; rw [hg]; simp only [if_neg h1', if_pos h2]) hlt
    | false =>
     have h2' : ¬ b[i] = 40 := by simpa using h2
     cases h3 : b[i] == (41 : UInt8) with
     | true =>
      rw [beq_iff_eq] at h3
      exact recu _ _ (by unfold j7; rw [hg]; simp only [if_neg h1', if_neg h2', if_pos h3]) hlt
     | false =>
      have h3' : ¬ b[i] = 41 := by simpa using h3
      cases h4 : b[i] == (34 : UInt8) with
      | true =>
       rw [beq_iff_eq] at h4
       simp only [cond_false, cond_true, znp N b (by omega) hN2 i hlt, zoC hlt h4]
       cases hs : sq (b.drop (i + 1)) with
       | none =>
        simp only [Option.bind_some, cond_false, Bool.not_false, cond_true]
        exact stop (by unfold j7; rw [hg]; simp only [if_neg h1', if_neg h2', if_neg h3', if_pos h4, hs]) _ _ _
       | some p =>
        obtain ⟨r, n⟩ := p
        simp only [Option.bind_some, cond_true, Bool.not_true, cond_false]
        exact recu _ _ (by unfold j7; rw [hg]; simp only [if_neg h1', if_neg h2', if_neg h3', if_pos h4, hs]) hlt
      | false =>
       have h4' : ¬ b[i] = 34 := by simpa using h4
       cases h5 : b[i] == (123 : UInt8) with
       | true =>
        rw [beq_iff_eq] at h5
        simp only [cond_false, cond_true, zmV N b hb (by omega) i hlt h5]
        unfold zqR
        cases hp : posOf 125 (b.drop (i + 1)) with
        | none =>
         simp only [Option.bind_some, cond_false, Bool.not_false, cond_true]
         exact stop (by unfold j7; rw [hg]; simp only [if_neg h1', if_neg h2', if_neg h3', if_neg h4', if_pos h5, hp]) _ _ _
        | some k =>
         cases hv : zgL (slice b (i + 1) (i + 1 + k)) with
         | none =>
          simp only [hv, Option.bind_some, cond_false, Bool.not_false, cond_true]
          exact stop (by unfold j7; rw [hg]; simp only [if_neg h1', if_neg h2', if_neg h3', if_neg h4', if_pos h5, hp, hv]) _ _ _
         | some n =>
          by_cases hc : n <= 65536 /\ b[i + 1 + k + 1]? = some 13 /\ b[i + 1 + k + 2]? = some 10 /\ i + 1 + k + 3 + n <= b.length
          ·simp only [hv, if_pos hc, Option.bind_some, cond_true, Bool.not_true, cond_false]
           exact recu _ _ (by unfold j7; rw [hg]; simp only [if_neg h1', if_neg h2', if_neg h3', if_neg h4', if_pos h5, hp, hv, if_pos hc]) hlt
          ·simp only [hv, if_neg hc, Option.bind_some, cond_false, Bool.not_false, cond_true]
           exact stop (by unfold j7; rw [hg]; simp only [if_neg h1', if_neg h2', if_neg h3', if_neg h4', if_pos h5, hp, hv, if_neg hc]) _ _ _
       | false =>
        have h5' : ¬ b[i] = 123 := by simpa using h5
        have hr := zgW jW (b.drop i)
        rw [List.length_drop] at hr
        simp only [cond_false, zqp N b hb i N i (by omega) (by omega), Option.bind_some]
        have hbn : jV ((i : Nat) : Int) ((i + run jW (b.drop i) : Nat) : Int) b.length = true := xQ (by omega) (by omega)
        simp only [hbn, Bool.and_true, cond_true, Int.toNat_natCast]
        by_cases h0 : 0 < run jW (b.drop i)
        ·have : decide (((i : Nat) : Int) < ((i + run jW (b.drop i) : Nat) : Int)) = true := by simp; omega
         simp only [this, Bool.not_true, cond_false]
         exact recu _ _ (by unfold j7; rw [hg]; simp only [if_neg h1', if_neg h2', if_neg h3', if_neg h4', if_neg h5', if_pos h0]) hlt
        ·have : decide (((i : Nat) : Int) < ((i + run jW (b.drop i) : Nat) : Int)) = false := by simp; omega
         simp only [this, Bool.not_false, cond_true]
         exact stop (by unfold j7; rw [hg]; simp only [if_neg h1', if_neg h2', if_neg h3', if_neg h4', if_neg h5', if_neg h0]) _ _ _
theorem zlO (N : Nat) (b : List UInt8) (hb : b.length <= 20000) (hN : 20 <= N) (hN2 : b.length < N) : wh N b = zqN (zaZ b N 0) := by
 unfold wh zqN
 obtain ⟨q1, q2⟩ := znW N b hb hN hN2 N 0 [] (by omega) (by simp) (by omega)
 rw [show ((0 : Nat) : Int) = (0 : Int) from rfl] at q1 q2
 cases hr : zaZ b N 0 with
 | inl l =>
  obtain ⟨x, y, h⟩ := q1 l hr
  rw [h]; rfl
 | inr a =>
  obtain ⟨x, y, z, h⟩ := q2 a hr
  rw [h]; rfl
def up (c : UInt8) : UInt8 := cond (decide ((97 : UInt8) <= c)) (cond (decide (c <= (122 : UInt8))) (c - 32) c) c
theorem zqw (c : UInt8) (h1 : decide ((97 : UInt8) <= c) = true) (h2 : decide (c <= (122 : UInt8)) = true) : c &&& ~~~(32 : UInt8) = c - 32 := by
 have key : ∀ n : Fin 256, decide ((97 : UInt8) <= UInt8.ofNat n.val) = true -> decide (UInt8.ofNat n.val <= (122 : UInt8)) = true -> UInt8.ofNat n.val &&& ~~~(32 : UInt8) = UInt8.ofNat n.val - 32 := by decide +kernel
 have := key ⟨c.toNat, c.toNat_lt⟩
 simp only [UInt8.ofNat_toNat] at this
 exact this h1 h2
theorem zp4 {s : List UInt8} {i : Nat} (h : i < s.length) : ((s.take i).map up ++ s.drop i).set i (up s[i]) = (s.take (i + 1)).map up ++ s.drop (i + 1) := by
 have hl : ((s.take i).map up).length = i := by rw [List.length_map, List.length_take]; omega
 rw [List.set_append, if_neg (by omega), hl, Nat.sub_self, drop_one h, List.set_cons_zero, List.take_succ_eq_append_getElem h, List.map_append, List.append_assoc]
 rfl
theorem zpL {s : List UInt8} {i : Nat} (h : i < s.length) : nth .u8 ((s.take i).map up ++ s.drop i) i = s[i] := by
 have hl : ((s.take i).map up).length = i := by rw [List.length_map, List.length_take]; omega
 have h2 : i < ((s.take i).map up ++ s.drop i).length := by rw [List.length_append, hl, List.length_drop]; omega
 rw [show nth .u8 ((s.take i).map up ++ s.drop i) i = ((s.take i).map up ++ s.drop i)[i] from zaY h2, List.getElem_append_right (by omega)]
 simp only [hl, Nat.sub_self, List.getElem_drop, Nat.add_zero]
theorem zfA (N : Nat) (s : List UInt8) (hs : s.length <= 2000) : ∀ (m i : Nat), i <= s.length -> s.length < m + i ->
  qD N m (s.length : Int) (i : Int) ((s.take i).map up ++ s.drop i) = some (s.map up)
 | 0, i, h, h' => by omega
 | m + 1, i, h, h' => by
  unfold qD xn
  by_cases hi : i < s.length
  ·have hlen : i < ((s.take i).map up ++ s.drop i).length := by rw [List.length_append, List.length_map, List.length_take, List.length_drop]; omega
   have hn : nth .u8 ((s.take i).map up ++ s.drop i) (Int.toNat (i : Int)) = s[i] := by rw [Int.toNat_natCast]; exact zpL hi
   simp only [zmv hi, cond_true, jw hlen]
   generalize nth .u8 ((s.take i).map up ++ s.drop i) (Int.toNat (i : Int)) = c at hn |-
   subst hn
   rw [Int.toNat_natCast, wri (by omega) (by omega), show ((i : Int) + 1) = ((i + 1 : Nat) : Int) by omega]
   have ih := zfA N s hs m (i + 1) (by omega) (by omega)
   rw [<- zp4 hi] at ih
   cases h1 : decide ((97 : UInt8) <= s[i]) with
   | true =>
    cases h2 : decide (s[i] <= (122 : UInt8)) with
    | true =>
     simp only [cond_true]
     rw [zqw _ h1 h2]
     simpa only [up, h1, h2, cond_true] using ih
    | false =>
     simp only [cond_true, cond_false]
     simpa only [up, h1, h2, cond_true, cond_false] using ih
   | false =>
    simp only [cond_false]
    simpa only [up, h1, cond_false] using ih
  ·rw [zmx hi, List.take_of_length_le (by omega), List.drop_of_length_le (by omega), List.append_nil]; rfl
theorem za6 (s : List UInt8) (hs : s.length <= 2000) : qI 3000 s = some (s.map up, ()) := by
 unfold qI
 rw [show Nat.blt s.length jH = true by rw [Nat.blt_eq]; unfold jH; omega, cond_true]
 have := zfA 3000 s hs 3000 0 (by omega) (by omega)
 rw [List.take_zero, List.drop_zero, List.map_nil, List.nil_append, show ((0 : Nat) : Int) = 0 from rfl] at this
 rw [this]; rfl
theorem zeo (N : Nat) (s : List UInt8) (hs : s.length <= 2000) : ∀ (m i : Nat), i <= s.length -> s.length < m + i ->
  ju N m s ((s.take i).map up) (i : Int) = some (s.map up)
 | 0, i, h, h' => by omega
 | m + 1, i, h, h' => by
  unfold ju kQ
  by_cases hi : i < s.length
  ·have hn : nth .u8 s (Int.toNat (i : Int)) = s[i] := by rw [Int.toNat_natCast]; exact zaY hi
   have hcap : ∀ c : UInt8, decide (((s.take i).map up).length + ([c] : List UInt8).length < 4611686018427387904) = true := fun c => by
    rw [decide_eq_true_eq, List.length_map, List.length_take]; simp; omega
   simp only [zmv hi, cond_true, jw hi, hcap]
   generalize nth .u8 s (Int.toNat (i : Int)) = c at hn |-
   subst hn
   rw [wri (by omega) (by omega), show ((i : Int) + 1) = ((i + 1 : Nat) : Int) by omega]
   have ih := zeo N s hs m (i + 1) (by omega) (by omega)
   rw [List.take_succ_eq_append_getElem hi, List.map_append, show [s[i]].map up = [up s[i]] from rfl] at ih
   cases h1 : decide ((97 : UInt8) <= s[i]) with
   | true =>
    cases h2 : decide (s[i] <= (122 : UInt8)) with
    | true =>
     simp only [cond_true]
     simpa only [up, h1, h2, cond_true] using ih
    | false =>
     simp only [cond_true, cond_false]
     simpa only [up, h1, h2, cond_true, cond_false] using ih
   | false =>
    simp only [cond_false]
    simpa only [up, h1, cond_false] using ih
  ·rw [zmx hi, List.take_of_length_le (by omega)]; rfl
theorem zeh (s : List UInt8) (hs : s.length <= 2000) : zw 3000 s = some (s.map up, ()) := by
 unfold zw
 have := zeo 3000 s hs 3000 0 (by omega) (by omega)
 rw [List.take_zero, List.map_nil, show ((0 : Nat) : Int) = 0 from rfl] at this
 rw [this]; rfl
def zq2 : List (List UInt8) := [([78, 79, 79, 80] : List UInt8), ([76, 79, 71, 79, 85, 84] : List UInt8), ([67, 76, 79, 83, 69] : List UInt8), ([69, 88, 80, 85, 78, 71, 69] : List UInt8), ([83, 69, 76, 69, 67, 84] : List UInt8), ([65, 80, 80, 69, 78, 68] : List UInt8), ([70, 69, 84, 67, 72] : List UInt8), ([83, 84, 79, 82, 69] : List UInt8)]
theorem zm6 (u : List UInt8) : zg 3000 3000 zq2 u 8 0 = (cond (u == ([78, 79, 79, 80] : List UInt8)) (some (.inl 0)) (cond (u == ([76, 79, 71, 79, 85, 84] : List UInt8)) (some (.inl 1)) (cond (u == ([67, 76, 79, 83, 69] : List UInt8)) (some (.inl 2)) (cond (u == ([69, 88, 80, 85, 78, 71, 69] : List UInt8)) (some (.inl 3)) (cond (u == ([83, 69, 76, 69, 67, 84] : List UInt8)) (some (.inl 4)) (cond (u == ([65, 80, 80, 69, 78, 68] : List UInt8)) (some (.inl 5)) (cond (u == ([70, 69, 84, 67, 72] : List UInt8)) (some (.inl 6)) (cond (u == ([83, 84, 79, 82, 69] : List UInt8)) (some (.inl 7)) (some (.inr ())))))))))) := by kernel_rfl
def items : List (List UInt8) := [([70, 76, 65, 71, 83] : List UInt8), ([85, 73, 68] : List UInt8), ([82, 70, 67, 56, 50, 50, 46, 83, 73, 90, 69] : List UInt8), ([66, 79, 68, 89, 46, 80, 69, 69, 75, 91, 93] : List UInt8), ([66, 79, 68, 89, 91, 93] : List UInt8)]
theorem zng (u : List UInt8) : zg 3000 3000 items u 5 0 = (cond (u == ([70, 76, 65, 71, 83] : List UInt8)) (some (.inl 0)) (cond (u == ([85, 73, 68] : List UInt8)) (some (.inl 1)) (cond (u == ([82, 70, 67, 56, 50, 50, 46, 83, 73, 90, 69] : List UInt8)) (some (.inl 2)) (cond (u == ([66, 79, 68, 89, 46, 80, 69, 69, 75, 91, 93] : List UInt8)) (some (.inl 3)) (cond (u == ([66, 79, 68, 89, 91, 93] : List UInt8)) (some (.inl 4)) (some (.inr ()))))))) := by kernel_rfl
theorem zkd (a b : List UInt8) : (a == b) = (b == a) := by rw [Bool.eq_iff_iff, beq_iff_eq, beq_iff_eq]; exact eq_comm
theorem zp6 (s u : List UInt8) (hU : zw 3000 s = some (u, ())) : zb 3000 3000 s 1 = (cond (u == ([78, 79, 79, 80] : List UInt8)) (some (.inl 1)) (cond (u == ([76, 79, 71, 79, 85, 84] : List UInt8)) (some (.inl 2)) (cond (u == ([67, 76, 79, 83, 69] : List UInt8)) (some (.inl 3)) (cond (u == ([69, 88, 80, 85, 78, 71, 69] : List UInt8)) (some (.inl 4)) (cond (u == ([83, 69, 76, 69, 67, 84] : List UInt8)) (some (.inl 5)) (cond (u == ([65, 80, 80, 69, 78, 68] : List UInt8)) (some (.inl 6)) (cond (u == ([70, 69, 84, 67, 72] : List UInt8)) (some (.inl 7)) (cond (u == ([83, 84, 79, 82, 69] : List UInt8)) (some (.inl 8)) (some (.inr ())))))))))) := by
 have s0 : zb 3000 3000 s 1 = cond (u == ([78, 79, 79, 80] : List UInt8)) (some (.inl 1)) (zb 3000 2999 s 2) := by
  rw [show zb 3000 3000 s 1 = (Option.bind (zw 3000 s) fun y => cond (([78, 79, 79, 80] : List UInt8) == y.1) (some (.inl 1)) (zb 3000 2999 s 2)) from by kernel_rfl, hU, zkd u]; rfl
 have s1 : zb 3000 2999 s 2 = cond (u == ([76, 79, 71, 79, 85, 84] : List UInt8)) (some (.inl 2)) (zb 3000 2998 s 3) := by
  rw [show zb 3000 2999 s 2 = (Option.bind (zw 3000 s) fun y => cond (([76, 79, 71, 79, 85, 84] : List UInt8) == y.1) (some (.inl 2)) (zb 3000 2998 s 3)) from by kernel_rfl, hU, zkd u]; rfl
 have s2 : zb 3000 2998 s 3 = cond (u == ([67, 76, 79, 83, 69] : List UInt8)) (some (.inl 3)) (zb 3000 2997 s 4) := by
  rw [show zb 3000 2998 s 3 = (Option.bind (zw 3000 s) fun y => cond (([67, 76, 79, 83, 69] : List UInt8) == y.1) (some (.inl 3)) (zb 3000 2997 s 4)) from by kernel_rfl, hU, zkd u]; rfl
 have s3 : zb 3000 2997 s 4 = cond (u == ([69, 88, 80, 85, 78, 71, 69] : List UInt8)) (some (.inl 4)) (zb 3000 2996 s 5) := by
  rw [show zb 3000 2997 s 4 = (Option.bind (zw 3000 s) fun y => cond (([69, 88, 80, 85, 78, 71, 69] : List UInt8) == y.1) (some (.inl 4)) (zb 3000 2996 s 5)) from by kernel_rfl, hU, zkd u]; rfl
 have s4 : zb 3000 2996 s 5 = cond (u == ([83, 69, 76, 69, 67, 84] : List UInt8)) (some (.inl 5)) (zb 3000 2995 s 6) := by
  rw [show zb 3000 2996 s 5 = (Option.bind (zw 3000 s) fun y => cond (([83, 69, 76, 69, 67, 84] : List UInt8) == y.1) (some (.inl 5)) (zb 3000 2995 s 6)) from by kernel_rfl, hU, zkd u]; rfl
 have s5 : zb 3000 2995 s 6 = cond (u == ([65, 80, 80, 69, 78, 68] : List UInt8)) (some (.inl 6)) (zb 3000 2994 s 7) := by
  rw [show zb 3000 2995 s 6 = (Option.bind (zw 3000 s) fun y => cond (([65, 80, 80, 69, 78, 68] : List UInt8) == y.1) (some (.inl 6)) (zb 3000 2994 s 7)) from by kernel_rfl, hU, zkd u]; rfl
 have s6 : zb 3000 2994 s 7 = cond (u == ([70, 69, 84, 67, 72] : List UInt8)) (some (.inl 7)) (zb 3000 2993 s 8) := by
  rw [show zb 3000 2994 s 7 = (Option.bind (zw 3000 s) fun y => cond (([70, 69, 84, 67, 72] : List UInt8) == y.1) (some (.inl 7)) (zb 3000 2993 s 8)) from by kernel_rfl, hU, zkd u]; rfl
 have s7 : zb 3000 2993 s 8 = cond (u == ([83, 84, 79, 82, 69] : List UInt8)) (some (.inl 8)) (zb 3000 2992 s 9) := by
  rw [show zb 3000 2993 s 8 = (Option.bind (zw 3000 s) fun y => cond (([83, 84, 79, 82, 69] : List UInt8) == y.1) (some (.inl 8)) (zb 3000 2992 s 9)) from by kernel_rfl, hU, zkd u]; rfl
 rw [s0, s1, s2, s3, s4, s5, s6, s7]
 rw [show zb 3000 2992 s 9 = some (.inr ()) from by kernel_rfl]
theorem zpD (s u : List UInt8) (hU : zw 3000 s = some (u, ())) : zf 3000 3000 s 1 = (cond (u == ([70, 76, 65, 71, 83] : List UInt8)) (some (.inl 1)) (cond (u == ([85, 73, 68] : List UInt8)) (some (.inl 2)) (cond (u == ([82, 70, 67, 56, 50, 50, 46, 83, 73, 90, 69] : List UInt8)) (some (.inl 4)) (cond (u == ([66, 79, 68, 89, 46, 80, 69, 69, 75, 91, 93] : List UInt8)) (some (.inl 8)) (cond (u == ([66, 79, 68, 89, 91, 93] : List UInt8)) (some (.inl 16)) (some (.inr ()))))))) := by
 have s0 : zf 3000 3000 s 1 = cond (u == ([70, 76, 65, 71, 83] : List UInt8)) (some (.inl 1)) (zf 3000 2999 s 2) := by
  rw [show zf 3000 3000 s 1 = (Option.bind (zw 3000 s) fun y => cond (([70, 76, 65, 71, 83] : List UInt8) == y.1) (some (.inl 1)) (zf 3000 2999 s 2)) from by kernel_rfl, hU, zkd u]; rfl
 have s1 : zf 3000 2999 s 2 = cond (u == ([85, 73, 68] : List UInt8)) (some (.inl 2)) (zf 3000 2998 s 4) := by
  rw [show zf 3000 2999 s 2 = (Option.bind (zw 3000 s) fun y => cond (([85, 73, 68] : List UInt8) == y.1) (some (.inl 2)) (zf 3000 2998 s 4)) from by kernel_rfl, hU, zkd u]; rfl
 have s2 : zf 3000 2998 s 4 = cond (u == ([82, 70, 67, 56, 50, 50, 46, 83, 73, 90, 69] : List UInt8)) (some (.inl 4)) (zf 3000 2997 s 8) := by
  rw [show zf 3000 2998 s 4 = (Option.bind (zw 3000 s) fun y => cond (([82, 70, 67, 56, 50, 50, 46, 83, 73, 90, 69] : List UInt8) == y.1) (some (.inl 4)) (zf 3000 2997 s 8)) from by kernel_rfl, hU, zkd u]; rfl
 have s3 : zf 3000 2997 s 8 = cond (u == ([66, 79, 68, 89, 46, 80, 69, 69, 75, 91, 93] : List UInt8)) (some (.inl 8)) (zf 3000 2996 s 16) := by
  rw [show zf 3000 2997 s 8 = (Option.bind (zw 3000 s) fun y => cond (([66, 79, 68, 89, 46, 80, 69, 69, 75, 91, 93] : List UInt8) == y.1) (some (.inl 8)) (zf 3000 2996 s 16)) from by kernel_rfl, hU, zkd u]; rfl
 have s4 : zf 3000 2996 s 16 = cond (u == ([66, 79, 68, 89, 91, 93] : List UInt8)) (some (.inl 16)) (zf 3000 2995 s 32) := by
  rw [show zf 3000 2996 s 16 = (Option.bind (zw 3000 s) fun y => cond (([66, 79, 68, 89, 91, 93] : List UInt8) == y.1) (some (.inl 16)) (zf 3000 2995 s 32)) from by kernel_rfl, hU, zkd u]; rfl
 rw [s0, s1, s2, s3, s4]
 rw [show zf 3000 2995 s 32 = some (.inr ()) from by kernel_rfl]
theorem zhq (s : List UInt8) (hs : s.length <= 2000) : ∃ n : Int, jt 3000 s = some (n, decide (0 < n), ()) /\ zaI 3000 s = some (n, ()) /\ 0 <= n /\ n <= 8 := by
 unfold jt zaI
 rw [za6 s hs]
 simp only [Option.bind_some]
 unfold zl
 rw [show zg 3000 3000 [([78, 79, 79, 80] : List UInt8), ([76, 79, 71, 79, 85, 84] : List UInt8), ([67, 76, 79, 83, 69] : List UInt8), ([69, 88, 80, 85, 78, 71, 69] : List UInt8), ([83, 69, 76, 69, 67, 84] : List UInt8), ([65, 80, 80, 69, 78, 68] : List UInt8), ([70, 69, 84, 67, 72] : List UInt8), ([83, 84, 79, 82, 69] : List UInt8)] (s.map up) (((List.length ([([78, 79, 79, 80] : List UInt8), ([76, 79, 71, 79, 85, 84] : List UInt8), ([67, 76, 79, 83, 69] : List UInt8), ([69, 88, 80, 85, 78, 71, 69] : List UInt8), ([83, 69, 76, 69, 67, 84] : List UInt8), ([65, 80, 80, 69, 78, 68] : List UInt8), ([70, 69, 84, 67, 72] : List UInt8), ([83, 84, 79, 82, 69] : List UInt8)] : List (List UInt8))) : Nat) : Int) 0 = _ from zm6 (s.map up), zp6 s _ (zeh s hs)]
 generalize (s.map up == ([78, 79, 79, 80] : List UInt8)) = b0
 generalize (s.map up == ([76, 79, 71, 79, 85, 84] : List UInt8)) = b1
 generalize (s.map up == ([67, 76, 79, 83, 69] : List UInt8)) = b2
 generalize (s.map up == ([69, 88, 80, 85, 78, 71, 69] : List UInt8)) = b3
 generalize (s.map up == ([83, 69, 76, 69, 67, 84] : List UInt8)) = b4
 generalize (s.map up == ([65, 80, 80, 69, 78, 68] : List UInt8)) = b5
 generalize (s.map up == ([70, 69, 84, 67, 72] : List UInt8)) = b6
 generalize (s.map up == ([83, 84, 79, 82, 69] : List UInt8)) = b7
 cases b0 with
 | true => exact ⟨1, rfl, rfl, by omega⟩
 | false =>
  cases b1 with
  | true => exact ⟨2, rfl, rfl, by omega⟩
  | false =>
  cases b2 with
  | true => exact ⟨3, rfl, rfl, by omega⟩
  | false =>
   cases b3 with
   | true => exact ⟨4, rfl, rfl, by omega⟩
   | false =>
   cases b4 with
   | true => exact ⟨5, rfl, rfl, by omega⟩
   | false =>
    cases b5 with
    | true => exact ⟨6, rfl, rfl, by omega⟩
    | false =>
    cases b6 with
    | true => exact ⟨7, rfl, rfl, by omega⟩
    | false =>
     cases b7 with
     | true => exact ⟨8, rfl, rfl, by omega⟩
     | false =>
     exact ⟨0, rfl, rfl, by omega⟩
theorem zgI (s : List UInt8) (hs : s.length <= 2000) : ∃ n : Int, qX 3000 s = some (n, decide (0 < n), ()) /\ zaW 3000 s = some (n, ()) /\ 0 <= n /\ n <= 16 := by
 unfold qX zaW
 rw [za6 s hs]
 simp only [Option.bind_some]
 unfold zl
 rw [show zg 3000 3000 [([70, 76, 65, 71, 83] : List UInt8), ([85, 73, 68] : List UInt8), ([82, 70, 67, 56, 50, 50, 46, 83, 73, 90, 69] : List UInt8), ([66, 79, 68, 89, 46, 80, 69, 69, 75, 91, 93] : List UInt8), ([66, 79, 68, 89, 91, 93] : List UInt8)] (s.map up) (((List.length ([([70, 76, 65, 71, 83] : List UInt8), ([85, 73, 68] : List UInt8), ([82, 70, 67, 56, 50, 50, 46, 83, 73, 90, 69] : List UInt8), ([66, 79, 68, 89, 46, 80, 69, 69, 75, 91, 93] : List UInt8), ([66, 79, 68, 89, 91, 93] : List UInt8)] : List (List UInt8))) : Nat) : Int) 0 = _ from zng (s.map up), zpD s _ (zeh s hs)]
 generalize (s.map up == ([70, 76, 65, 71, 83] : List UInt8)) = b0
 generalize (s.map up == ([85, 73, 68] : List UInt8)) = b1
 generalize (s.map up == ([82, 70, 67, 56, 50, 50, 46, 83, 73, 90, 69] : List UInt8)) = b2
 generalize (s.map up == ([66, 79, 68, 89, 46, 80, 69, 69, 75, 91, 93] : List UInt8)) = b3
 generalize (s.map up == ([66, 79, 68, 89, 91, 93] : List UInt8)) = b4
 cases b0 with
 | true => exact ⟨1, rfl, rfl, by omega⟩
 | false =>
  cases b1 with
  | true => exact ⟨2, rfl, rfl, by omega⟩
  | false =>
  cases b2 with
  | true => exact ⟨4, rfl, rfl, by omega⟩
  | false =>
   cases b3 with
   | true => exact ⟨8, rfl, rfl, by omega⟩
   | false =>
   cases b4 with
   | true => exact ⟨16, rfl, rfl, by omega⟩
   | false =>
    exact ⟨0, rfl, rfl, by omega⟩
def jB (c : UInt8) : List UInt8 -> List (List UInt8)
 | [] => [[]]
 | x :: l => if x == c then [] :: jB c l else match jB c l with
  | h :: t => (x :: h) :: t
  | [] => [[x]]
theorem zbG {c : UInt8} : ∀ {l : List UInt8}, posOf c l = none -> jB c l = [l]
 | [], h => rfl
 | x :: l, h => by
  unfold posOf at h
  unfold jB
  cases hx : x == c with
  | true => simp only [hx, if_true] at h; cases h
  | false =>
   simp only [hx, Bool.false_eq_true, if_false] at h |-
   split at h
   ·cases h
   ·rename_i hn; rw [zbG hn]
theorem zeG {c : UInt8} : ∀ {l : List UInt8} {i : Nat}, posOf c l = some i -> jB c l = l.take i :: jB c (l.drop (i + 1))
 | [], i, h => by cases h
 | x :: l, i, h => by
  unfold posOf at h
  conv => lhs; unfold jB
  cases hx : x == c with
  | true => simp only [hx, if_true] at h |-; cases h; rfl
  | false =>
   simp only [hx, Bool.false_eq_true, if_false] at h |-
   split at h
   ·rename_i j hj
    cases h
    rw [zeG hj]; rfl
   ·cases h
theorem index_one (c : UInt8) : ∀ l : List UInt8, Go.Lib.index l [c] = match posOf c l with
  | some i => ((i : Nat) : Int)
  | none => -1
 | [] => rfl
 | b :: l => by
  unfold Go.Lib.index posOf
  have hp : ([c] : List UInt8).isPrefixOf (b :: l) = (b == c) := by
   rw [List.isPrefixOf_cons_cons, List.isPrefixOf_nil_left, Bool.and_true]
   rw [Bool.eq_iff_iff, beq_iff_eq, beq_iff_eq]; exact eq_comm
  rw [hp, index_one c l]
  cases b == c with
  | true => rfl
  | false =>
   simp only [Bool.false_eq_true, if_false]
   cases posOf c l with
   | none => rfl
   | some i =>
    simp only
    rw [if_neg (by rw [beq_iff_eq]; omega)]; rfl
theorem zhy (c : UInt8) : ∀ (k : Nat) (s : List UInt8), s.length <= k -> Go.Lib.splitK [c] 0 (Go.Lib.count s [c]) s = jB c s
 | 0, s, h => by
  have : s = [] := List.eq_nil_of_length_eq_zero (by omega)
  subst this
  rw [Go.Lib.count_miss (by rfl)]; rfl
 | k + 1, s, h => by
  cases hp : posOf c s with
  | none =>
   rw [Go.Lib.count_miss (by rw [index_one, hp]), zbG hp]; rfl
  | some i =>
   have hi := xC hp
   have hix : Go.Lib.index s [c] = ((i : Nat) : Int) := by rw [index_one, hp]
   rw [Go.Lib.count_hit (by simp) hix, Nat.add_comm 1]
   unfold Go.Lib.splitK
   rw [if_neg (by rw [hix, beq_iff_eq]; omega), hix, Int.toNat_natCast, zeG hp]
   rw [Nat.add_zero]
   congr 1
   exact zhy c k (s.drop (i + 1)) (by rw [List.length_drop]; omega)
theorem zef (c : UInt8) (s : List UInt8) : qE s [c] = jB c s := by
 unfold qE
 rw [Go.Lib.splitB_data]
 exact zhy c s.length s (Nat.le_refl _)
theorem zbe (c : UInt8) : ∀ l : List UInt8, 0 < (jB c l).length /\ (jB c l).length <= l.length + 1 /\ ∀ p ∈ jB c l, p.length <= l.length
 | [] => ⟨by simp [jB], by simp [jB], by simp [jB]⟩
 | x :: l => by
  obtain ⟨h1, h2, h3⟩ := zbe c l
  unfold jB
  split
  ·refine ⟨by simp, by simp; omega, fun p hp => ?_⟩
   simp only [List.mem_cons] at hp
   rcases hp with rfl | hp
   ·simp
   ·have := h3 p hp; simp; omega
  ·split
   ·rename_i h t he
    rw [he] at h1 h2 h3
    refine ⟨by simp, by simp at h2 |-; omega, fun p hp => ?_⟩
    simp only [List.mem_cons] at hp
    rcases hp with rfl | hp
    ·have := h3 h (by simp); simp; omega
    ·have := h3 p (by simp [hp]); simp; omega
   ·rename_i he
    rw [he] at h1; simp at h1
def zjP (s : List UInt8) : Option Nat := if s = [42] then some 0 else match zgL s with
 | some v => if v = 0 then none else some v
 | none => none
def zkO (s : List UInt8) (o : Option (Int × Bool × Unit)) : Prop := match zjP s with
 | some v => o = some (((v : Nat) : Int), true, ())
 | none => ∃ x, o = some (x, false, ())
theorem xu (s : List UInt8) (hs : s.length <= 2000) : zkO s (zO 3000 s) := by
 unfold zkO zjP zO
 by_cases h : s = [42]
 ·subst h; rfl
 ·have e : (s == ([42] : List UInt8)) = false := by simpa using h
  simp only [e, cond_false, if_neg h]
  rw [zja 3000 (by omega) s (by omega)]
  unfold zqH
  simp only [Option.bind_some]
  cases zgL s with
  | none => exact ⟨_, rfl⟩
  | some v =>
   simp only [cond_true]
   by_cases hv : v = 0
   ·subst hv; exact ⟨_, rfl⟩
   ·rw [if_neg hv]
    have : (((v : Nat) : Int) != 0) = true := by simp; omega
    simp only [this]
def zeV (s : List UInt8) : Option (Int × Int) := match posOf 58 s with
 | none => match zjP s with
  | some v => some (((v : Nat) : Int), ((v : Nat) : Int))
  | none => none
 | some i => match zjP (s.take i), zjP (s.drop (i + 1)) with
  | some a, some b => some (((a : Nat) : Int), ((b : Nat) : Int))
  | _, _ => none
def wO : List (List UInt8) -> Option (List (Int × Int))
 | [] => some []
 | s :: l => match zeV s, wO l with
  | some r, some t => some (r :: t)
  | _, _ => none
def wL (s : List UInt8) : Option ((List (Int × Int)) × Bool × Unit) := some (match wO (jB 44 s) with
 | some l => (l, true, ())
 | none => ([], false, ()))
theorem zqq (s : List UInt8) : (([58] : List UInt8) == s) = true ↔ s = [58] := by rw [beq_iff_eq]; exact eq_comm
theorem zsd (s : List UInt8) : z8 3000 s 58 = some (qR 58 s 0, ()) := rfl
theorem zc5 {a b : List UInt8} (oa ob : Option (Int × Bool × Unit)) (ha : zkO a oa) (hb : zkO b ob) (R : Type) (f : Int × Int -> Option R) (g : Option R) :
  (Option.bind oa fun y1 => Option.bind ob fun y2 => cond (!y1.2.1) g (cond (!y2.2.1) g (f (y1.1, y2.1)))) = match zjP a, zjP b with
   | some x, some y => f (((x : Nat) : Int), ((y : Nat) : Int))
   | _, _ => g := by
 unfold zkO at ha hb
 cases h1 : zjP a with
 | none =>
  rw [h1] at ha
  obtain ⟨x, rfl⟩ := ha
  cases h2 : zjP b with
  | none => rw [h2] at hb; obtain ⟨y, rfl⟩ := hb; rfl
  | some v => rw [h2] at hb; subst hb; rfl
 | some u =>
  rw [h1] at ha
  subst ha
  cases h2 : zjP b with
  | none => rw [h2] at hb; obtain ⟨y, rfl⟩ := hb; rfl
  | some v => rw [h2] at hb; subst hb; rfl
theorem zpN (parts : List (List UInt8)) (hp : parts.length <= 2001) (hq : ∀ p ∈ parts, p.length <= 2000) : ∀ (m i : Nat) (out : List (Int × Int)), i <= parts.length -> out.length <= i -> parts.length < m + i ->
  match wO (parts.drop i) with
  | some l => zA 3000 m ((parts.length : Nat) : Int) ((i : Nat) : Int) parts out = some (Sum.inr (parts, out ++ l))
  | none => ∃ o, zA 3000 m ((parts.length : Nat) : Int) ((i : Nat) : Int) parts out = some (Sum.inl (parts, o))
 | 0, i, out, h, ho, h' => by omega
 | m + 1, i, out, h, ho, h' => by
  unfold zA wT
  by_cases hi : i < parts.length
  ·have hs : parts[i].length <= 2000 := hq _ (List.getElem_mem hi)
   have w1 : IntKind.wrap .i64 (((i : Nat) : Int) + 1) = ((i + 1 : Nat) : Int) := by rw [wri (by omega) (by omega)]; omega
   simp only [zmv hi, cond_true, jw hi, Int.toNat_natCast, zaY (u := .str) hi, w1, zgr (show out.length + 1 <= 200000 by omega), zsd, zew, Option.bind_some]
   rw [drop_one hi]
   unfold wO
   generalize parts[i] = s at hs
   have ihs := fun r : Int × Int => zpN parts hp hq m (i + 1) (out ++ [r]) (by omega) (by simp; omega) (by omega)
   have fin : ∀ (o : Option (List (List UInt8) × List (Int × Int) ⊕ List (List UInt8) × List (Int × Int))), (o = match zeV s with
     | some r => zA 3000 m ((parts.length : Nat) : Int) ((i + 1 : Nat) : Int) parts (out ++ [r])
     | none => some (Sum.inl (parts, out))) -> match (match zeV s, wO (parts.drop (i + 1)) with
      | some r, some t => some (r :: t)
      | _, _ => none) with
     | some l => o = some (Sum.inr (parts, out ++ l))
     | none => ∃ o', o = some (Sum.inl (parts, o')) := by
    intro o ho
    subst ho
    cases hr : zeV s with
    | none => exact ⟨_, rfl⟩
    | some r =>
     have ih := ihs r
     cases ht : wO (parts.drop (i + 1)) with
     | none => rw [ht] at ih; exact ih
     | some t => rw [ht] at ih; simp only at ih |-; rw [ih, List.append_assoc]; rfl
   by_cases h58 : s = [58]
   ·subst h58
    simp only [show (([58] : List UInt8) == [58]) = true from rfl, cond_true]
    have hb1 : jV (0 : Int) (0 : Int) (List.length ([58] : List UInt8)) = true := rfl
    have hb2 : jV (1 : Int) (((List.length ([58] : List UInt8)) : Nat) : Int) (List.length ([58] : List UInt8)) = true := rfl
    simp only [hb1, hb2, cond_true]
    refine fin _ ?_
    refine (zc5 _ _ (xu (slice [58] 0 0) (by simp [slice])) (xu (slice [58] 1 ([58] : List UInt8).length) (by simp [slice])) _ (fun r => zA 3000 m ((parts.length : Nat) : Int) ((i + 1 : Nat) : Int) parts (out ++ [r])) (some (Sum.inl (parts, out)))).trans ?_
    rfl
   ·have e58 : (([58] : List UInt8) == s) = false := by
     cases e : ([58] : List UInt8) == s with
     | false => rfl
     | true => exact absurd ((zqq s).1 e) h58
    simp only [e58, cond_false]
    cases hpos : posOf 58 s with
    | none =>
     simp only [show decide ((0 : Int) <= -1) = false from rfl, cond_false]
     refine fin _ ?_
     refine (zc5 _ _ (xu s hs) (xu s hs) _ (fun r => zA 3000 m ((parts.length : Nat) : Int) ((i + 1 : Nat) : Int) parts (out ++ [r])) (some (Sum.inl (parts, out)))).trans ?_
     unfold zeV
     rw [hpos]
     cases zjP s <;> rfl
    | some k =>
     obtain ⟨q1, q2, q3⟩ := xC hpos
     simp only [Nat.zero_add]
     have d0 : decide ((0 : Int) <= ((k : Nat) : Int)) = true := by simp
     have w2 : IntKind.wrap .i64 (((k : Nat) : Int) + 1) = ((k + 1 : Nat) : Int) := by rw [wri (by omega) (by omega)]; omega
     have hb1 : jV (0 : Int) ((k : Nat) : Int) s.length = true := by
      have := xQ (a := 0) (b := k) (n := s.length) (by omega) (by omega)
      rwa [show ((0 : Nat) : Int) = (0 : Int) from rfl] at this
     have hb2 : jV ((k + 1 : Nat) : Int) ((s.length : Nat) : Int) s.length = true := xQ (by omega) (by omega)
     simp only [d0, cond_true, w2, hb1, hb2, Int.toNat_natCast, zbg, xG]
     refine fin _ ?_
     refine (zc5 _ _ (xu (s.take k) (by rw [List.length_take]; omega)) (xu (s.drop (k + 1)) (by rw [List.length_drop]; omega)) _ (fun r => zA 3000 m ((parts.length : Nat) : Int) ((i + 1 : Nat) : Int) parts (out ++ [r])) (some (Sum.inl (parts, out)))).trans ?_
     unfold zeV
     rw [hpos]
     simp only
     cases zjP (s.take k) with
     | none => rfl
     | some a => cases zjP (s.drop (k + 1)) <;> rfl
  ·simp only [zmx hi, cond_false]
   rw [List.drop_eq_nil_of_le (by omega)]
   simp only [wO, List.append_nil]
theorem zm5 (s : List UInt8) (hs : s.length <= 2000) : qW 3000 s = wL s := by
 unfold qW wL
 have hb : Nat.ble s.length zf9 = true := by rw [Nat.ble_eq]; unfold zf9; omega
 obtain ⟨l1, l2, l3⟩ := zbe 44 s
 have := zpN (jB 44 s) (by omega) (fun p hp => by have := l3 p hp; omega) 3000 0 [] (by omega) (by simp) (by omega)
 rw [show ((0 : Nat) : Int) = (0 : Int) from rfl, List.drop_zero] at this
 simp only [hb, cond_true, zef]
 cases hr : wO (jB 44 s) with
 | some l => rw [hr] at this; simp only at this; rw [this]; rfl
 | none => rw [hr] at this; obtain ⟨o, h⟩ := this; rw [h]; rfl
def flA : List UInt8 := [92, 65, 78, 83, 87, 69, 82, 69, 68]
def flF : List UInt8 := [92, 70, 76, 65, 71, 71, 69, 68]
def flD : List UInt8 := [92, 68, 69, 76, 69, 84, 69, 68]
def flE : List UInt8 := [92, 83, 69, 69, 78]
def flR : List UInt8 := [92, 68, 82, 65, 70, 84]
def flT : List (List UInt8 × UInt8) := [(flA, 1), (flF, 2), (flD, 4), (flE, 8), (flR, 16)]
def flS (s : List UInt8) : Option Nat :=
 if s.map up = flA then some 1 else if s.map up = flF then some 2 else if s.map up = flD then some 4 else if s.map up = flE then some 8 else if s.map up = flR then some 16 else none
theorem zi6 {s : List UInt8} {n : Nat} (h : flS s = some n) : 0 < n /\ n < 32 := by
 unfold flS at h
 split at h
 ·cases h; omega
 ·split at h
  ·cases h; omega
  ·split at h
   ·cases h; omega
   ·split at h
    ·cases h; omega
    ·split at h
     ·cases h; omega
     ·cases h
theorem zqj (u : List UInt8) : xM .str .u8 flT u = if u = flA then some 1 else if u = flF then some 2 else if u = flD then some 4 else if u = flE then some 8 else if u = flR then some 16 else none := by
 show cond (u == flA) (some 1) (cond (u == flF) (some 2) (cond (u == flD) (some 4) (cond (u == flE) (some 8) (cond (u == flR) (some 16) none)))) = _
 have h : ∀ (x : List UInt8) (a b : Option UInt8), cond (u == x) a b = if u = x then a else b := fun x a b => by
  cases e : u == x with
  | true => rw [beq_iff_eq] at e; rw [if_pos e]; rfl
  | false => rw [if_neg (by simpa using e)]; rfl
 simp only [h]
theorem zp8 (s : List UInt8) : xM .str .u8 flT (s.map up) = (flS s).map UInt8.ofNat := by
 rw [zqj]
 unfold flS
 split
 ·rfl
 ·split
  ·rfl
  ·split
   ·rfl
   ·split
    ·rfl
    ·split <;> rfl
theorem xH (s : List UInt8) (hs : s.length <= 2000) (h0 : s ≠ []) (h32 : posOf 32 s = none) : jg 3000 ((([40] : List UInt8) ++ s) ++ ([41] : List UInt8)) = some (match flS s with
  | some n => (UInt8.ofNat n, true, ())
  | none => (0, false, ())) := by
 have e1 : qO 3000 ((([40] : List UInt8) ++ s) ++ ([41] : List UInt8)) ([40] : List UInt8) = some (s ++ [41], true, ()) := by
  unfold qO qN qP
  have hl : (([40] ++ s) ++ [41] : List UInt8).length = s.length + 2 := by simp
  have c1 : decide ((((List.length ([40] : List UInt8)) : Nat) : Int) <= (((List.length ((([40] : List UInt8) ++ s) ++ ([41] : List UInt8))) : Nat) : Int)) = true := by rw [hl]; simp; omega
  have c2 : jV (0 : Int) (((List.length ([40] : List UInt8)) : Nat) : Int) (List.length ((([40] : List UInt8) ++ s) ++ ([41] : List UInt8))) = true := by
   have := xQ (a := 0) (b := 1) (n := (([40] ++ s) ++ [41] : List UInt8).length) (by omega) (by rw [hl]; omega)
   exact this
  have c3 : jV (((List.length ([40] : List UInt8)) : Nat) : Int) (((List.length ((([40] : List UInt8) ++ s) ++ ([41] : List UInt8))) : Nat) : Int) (List.length ((([40] : List UInt8) ++ s) ++ ([41] : List UInt8))) = true := xQ (by rw [hl]; simp) (Nat.le_refl _)
  simp only [c1, c2, c3, cond_true, Option.bind_some, Int.toNat_natCast, xG]
  rfl
 have e2 : zM 3000 (s ++ [41]) ([41] : List UInt8) = some (s, true, ()) := by
  unfold zM zY z7
  have hl : (s ++ [41] : List UInt8).length = s.length + 1 := by simp
  have w : IntKind.wrap .i64 ((((List.length (s ++ [41] : List UInt8)) : Nat) : Int) - (((List.length ([41] : List UInt8)) : Nat) : Int)) = ((s.length : Nat) : Int) := by rw [hl, wri (by simp) (by simp; omega)]; simp
  have c1 : decide ((((List.length ([41] : List UInt8)) : Nat) : Int) <= (((List.length (s ++ [41] : List UInt8)) : Nat) : Int)) = true := by rw [hl]; simp; omega
  have c2 : jV ((s.length : Nat) : Int) (((List.length (s ++ [41] : List UInt8)) : Nat) : Int) (List.length (s ++ [41] : List UInt8)) = true := xQ (by rw [hl]; omega) (Nat.le_refl _)
  have c3 : jV (0 : Int) ((s.length : Nat) : Int) (List.length (s ++ [41] : List UInt8)) = true := by
   have := xQ (a := 0) (b := s.length) (n := (s ++ [41] : List UInt8).length) (by omega) (by rw [hl]; omega)
   exact this
  have q1 : (s ++ [41] : List UInt8).drop s.length = [41] := by simp
  have q2 : (s ++ [41] : List UInt8).take s.length = s := by simp
  simp only [w, c1, c2, c3, cond_true, Option.bind_some, Int.toNat_natCast, xG, zbg, q1, q2, show (([41] : List UInt8) == [41]) = true from rfl, Bool.not_true, cond_false]
 unfold jg
 have e3 : (s == ([] : List UInt8)) = false := by simpa using h0
 have e4 : zbQ 3000 (31 : UInt8) = some ([1, 2, 4, 8, 16], ()) := by kernel_rfl
 have e5 : qS 3000 3000 [1, 2, 4, 8, 16] (((List.length ([1, 2, 4, 8, 16] : List UInt8)) : Nat) : Int) (0 : Int) ([] : List ((List UInt8) × UInt8)) = some flT := by kernel_rfl
 have e6 : Nat.ble (List.length s) zf9 = true := by rw [Nat.ble_eq]; unfold zf9; omega
 simp only [e1, e2, Option.bind_some, Bool.not_true, cond_false, e3, e4, e5, e6, cond_true, zef, zbG h32]
 unfold qo jM
 have c1 : decide ((0 : Int) < (((List.length [s]) : Nat) : Int)) = true := rfl
 have c2 : inb (0 : Int) (List.length [s]) = true := rfl
 simp only [c1, c2, cond_true, show nth .str [s] (Int.toNat 0) = s from rfl, za6 s (by omega), Option.bind_some, zp8]
 cases flS s with
 | none => rfl
 | some n =>
  simp only [Option.map_some, Option.isSome_some, Bool.not_true, cond_false, Option.getD_some]
  unfold qo jM
  have w1 : IntKind.wrap .i64 ((0 : Int) + 1) = 1 := rfl
  have c3 : decide ((1 : Int) < (((List.length [s]) : Nat) : Int)) = false := rfl
  simp only [w1, c3, cond_false, Option.bind_some, zm]
  rw [show (0 : UInt8) ||| UInt8.ofNat n = UInt8.ofNat n from UInt8.zero_or]
theorem zH (a k : Int) : za 3000 [a] k = some (k == a, ()) := by
 unfold za qf
 rw [show zF 3000 3000 [a] k (((List.length [a]) : Nat) : Int) 0 = cond (k == a) (some (.inl 0)) (some (.inr ())) from by kernel_rfl]
 cases k == a <;> rfl
theorem ze4 (a b c k : Int) : za 3000 [a, b, c] k = some (k == a || k == b || k == c, ()) := by
 unfold za qf
 rw [show zF 3000 3000 [a, b, c] k (((List.length [a, b, c]) : Nat) : Int) 0 = cond (k == a) (some (.inl 0)) (cond (k == b) (some (.inl 1)) (cond (k == c) (some (.inl 2)) (some (.inr ())))) from by kernel_rfl]
 cases k == a <;> cases k == b <;> cases k == c <;> rfl
def zeP (c : UInt8) : Bool := cond (zjD c) true (c == 93)
theorem zrf (N : Nat) (c : UInt8) : zI N c = some (zeP c, ()) := by
 unfold zI
 rw [zrW]
 simp only [Option.bind_some]
 unfold zeP
 cases zjD c <;> rfl
theorem znE (N : Nat) (s : List UInt8) (hs : s.length <= 100000) : ∀ (m i : Nat), i <= s.length -> s.length < m + i ->
  zS N m s (s.length : Int) (i : Int) = some (if (s.drop i).all zeP = true then Sum.inr () else Sum.inl ())
 | 0, i, h, h' => by omega
 | m + 1, i, h, h' => by
  unfold zS wD
  by_cases hi : i < s.length
  ·simp only [zmv hi, cond_true, jw hi, Int.toNat_natCast, zaY (u := .u8) hi, zrf, Option.bind_some, drop_one hi, List.all_cons]
   cases hc : zeP s[i] with
   | true =>
    simp only [Bool.not_true, cond_false, Bool.true_and]
    rw [wri (by omega) (by omega), show ((i : Int) + 1) = ((i + 1 : Nat) : Int) by omega]
    exact znE N s hs m (i + 1) (by omega) (by omega)
   | false => simp
  ·simp only [zmx hi, cond_false]
   rw [List.drop_eq_nil_of_le (by omega)]
   simp
theorem znz (N : Nat) (s : List UInt8) (hs : s.length <= 100000) : ∀ (m i : Nat), i <= s.length -> s.length < m + i ->
  zR N m s (s.length : Int) (i : Int) = some (if (s.drop i).all zeP = true then Sum.inr () else Sum.inl ())
 | 0, i, h, h' => by omega
 | m + 1, i, h, h' => by
  unfold zR wy
  by_cases hi : i < s.length
  ·simp only [zmv hi, cond_true, jw hi, Int.toNat_natCast, zaY (u := .u8) hi, zrf, Option.bind_some, drop_one hi, List.all_cons]
   cases hc : zeP s[i] with
   | true =>
    simp only [Bool.not_true, cond_false, Bool.true_and]
    rw [wri (by omega) (by omega), show ((i : Int) + 1) = ((i + 1 : Nat) : Int) by omega]
    exact znz N s hs m (i + 1) (by omega) (by omega)
   | false => simp
  ·simp only [zmx hi, cond_false]
   rw [List.drop_eq_nil_of_le (by omega)]
   simp
def zkX (t : Tok) : Bool := if t.1 = 4 then t.2.1.all zeP else (t.1 == 5 || t.1 == 6)
theorem zlm {p : UInt8 -> Bool} {c : UInt8} (hc : p c = false) : ∀ {l : List UInt8}, l.all p = true -> posOf c l = none := by
 intro l h
 cases hp : posOf c l with
 | none => rfl
 | some i =>
  obtain ⟨h1, h2, _⟩ := xC hp
  have h3 := List.all_eq_true.1 h c (List.mem_of_getElem? h2)
  rw [hc] at h3; cases h3
def qG (t : Tok) : Prop := (1 <= t.1 /\ t.1 <= 6) /\ t.2.1.length <= 2000 /\ (t.1 = 4 -> t.2.1 ≠ [] /\ posOf 32 t.2.1 = none)
theorem zol {b : List UInt8} {i n : Nat} {t : Tok} (hb : b.length <= 2000) (hi : i < b.length) (h : j7 b i = some (t, n)) : qG t := by
 unfold j7 at h
 rw [List.getElem?_eq_getElem hi] at h
 simp only at h
 unfold qG
 split at h
 ·cases h; simp
 ·split at h
  ·cases h; simp
  ·split at h
   ·cases h; simp
   ·split at h
    ·split at h
     ·rename_i r k hr
      have := zjy _ hr
      rw [List.length_drop] at this
      cases h
      refine ⟨⟨by simp, by simp⟩, by simp only; omega, by simp⟩
     ·cases h
    ·split at h
     ·split at h
      ·cases h
      ·split at h
       ·cases h
       ·split at h
        ·cases h
         refine ⟨⟨by simp, by simp⟩, ?_, by simp⟩
         simp only
         exact Nat.le_trans zb0 hb
        ·cases h
     ·split at h
      ·rename_i hr
       have hle := zgW jW (b.drop i)
       rw [List.length_drop] at hle
       cases h
       refine ⟨⟨by simp, by simp⟩, Nat.le_trans zb0 hb, fun _ => ?_⟩
       have e : slice b i (i + run jW (b.drop i)) = (b.drop i).take (run jW (b.drop i)) := by
        unfold slice; congr 1; omega
       refine ⟨?_, ?_⟩
       ·simp only [e]
        intro h0
        have := congrArg List.length h0
        rw [List.length_take, List.length_drop] at this
        simp at this; omega
       ·simp only [e]
        exact zlm (p := jW) (by kernel_rfl) (zdY jW _)
      ·cases h
theorem zf0 {b : List UInt8} (hb : b.length <= 2000) : ∀ (f i : Nat) (l : List Tok), i <= b.length -> zaZ b f i = .inl l ->
  ∃ (p : List Tok) (e : Tok), l = p ++ [e] /\ e.1 = 0 /\ (∀ t ∈ p, qG t) /\ p.length + i <= b.length
 | 0, i, l, hi, h => by cases h
 | f + 1, i, l, hi, h => by
  unfold zaZ at h
  cases hn : j7 b i with
  | none => rw [hn] at h; cases h
  | some q =>
   obtain ⟨t, n⟩ := q
   rw [hn] at h
   simp only at h
   by_cases hl : b.length <= i
   ·rw [if_pos hl] at h
    cases h
    exact ⟨[], t, rfl, (zqO hn).2 hl, (fun _ h => by cases h), by simpa using hi⟩
   ·rw [if_neg hl] at h
    have hnl := zjr (by omega) hn
    cases hr : zaZ b f n with
    | inr a => rw [hr] at h; cases h
    | inl l' =>
     rw [hr] at h
     cases h
     obtain ⟨p, e, h1, h2, h3, h4⟩ := zf0 hb f n l' hnl.2 hr
     refine ⟨t :: p, e, by rw [h1]; rfl, h2, fun u hu => ?_, by simp only [List.length_cons]; omega⟩
     rcases List.mem_cons.1 hu with rfl | hu
     ·exact zol hb (by omega) hn
     ·exact h3 u hu
def kc (t : Tok) : UInt8 := nth .u8 [101, 115, 40, 41, 119, 113, 108] t.1.toNat
def zaz (s : List UInt8) : Int := match zaI 3000 s with
 | some (n, _) => n
 | none => 0
def xi (s : List UInt8) : Int := match zaW 3000 s with
 | some (n, _) => n
 | none => 0
theorem zlh (s : List UInt8) (hs : s.length <= 2000) : jt 3000 s = some (zaz s, decide (0 < zaz s), ()) := by
 obtain ⟨n, h1, h2, _⟩ := zhq s hs
 unfold zaz
 rw [h2, h1]
theorem zaQ (s : List UInt8) (hs : s.length <= 2000) : qX 3000 s = some (xi s, decide (0 < xi s), ()) := by
 obtain ⟨n, h1, h2, _⟩ := zgI s hs
 unfold xi
 rw [h2, h1]
theorem zi9 (s : List UInt8) (hs : s.length <= 2000) : 0 <= zaz s /\ zaz s <= 8 := by
 obtain ⟨n, h1, h2, h3⟩ := zhq s hs
 unfold zaz
 rw [h2]; exact h3
theorem zd3 (s : List UInt8) (hs : s.length <= 2000) : 0 <= xi s /\ xi s <= 16 := by
 obtain ⟨n, h1, h2, h3⟩ := zgI s hs
 unfold xi
 rw [h2]; exact h3
def zom (s : List UInt8) : Int := match flS s with
 | some n => ((n : Nat) : Int)
 | none => 0
def vW (items : Bool) (s : List UInt8) : Int := cond items (xi s) (zom s)
def zC {A : Type} (f : List UInt8 -> Option A) (op : A -> A -> A) : A -> List Tok -> Option A
 | _, [] => none
 | a, [t] => if t.1 = 4 then (f t.2.1).map (op a) else none
 | a, t :: s :: r => if t.1 = 4 then (match f t.2.1 with
  | none => none
  | some x => if s.1 = 1 then zC f op (op a x) r else none) else none
def fW (items : Bool) (s : List UInt8) : Option Int := if vW items s = 0 then none else some (vW items s)
def orI (a b : Int) : Int := k9 .or .i64 a b
def fP (s : List UInt8) : Option UInt8 := (flS s).map UInt8.ofNat
def orP (a b : UInt8) : UInt8 := a ||| b
theorem zpK {a b : Nat} (ha : a < 32) (hb : b < 32) : ∃ c : Nat, orI ((a : Nat) : Int) ((b : Nat) : Int) = ((c : Nat) : Int) /\ c < 32 /\ UInt8.ofNat a ||| UInt8.ofNat b = UInt8.ofNat c := by
 have h : ((List.range 32).all fun a => (List.range 32).all fun b => decide (0 <= orI ((a : Nat) : Int) ((b : Nat) : Int)) && (decide ((orI ((a : Nat) : Int) ((b : Nat) : Int)).toNat < 32) && ((UInt8.ofNat a ||| UInt8.ofNat b) == UInt8.ofNat (orI ((a : Nat) : Int) ((b : Nat) : Int)).toNat))) = true := by kernel_rfl
 have h1 := List.all_eq_true.1 (List.all_eq_true.1 h a (List.mem_range.2 ha)) b (List.mem_range.2 hb)
 simp only [Bool.and_eq_true, decide_eq_true_eq, beq_iff_eq] at h1
 exact ⟨_, (Int.toNat_of_nonneg h1.1).symm, h1.2.1, h1.2.2⟩
theorem zex {s : List UInt8} (h : flS s = none) : fW false s = none /\ fP s = none := by
 have e : vW false s = 0 := by unfold vW zom; rw [cond_false, h]
 refine ⟨?_, ?_⟩
 ·unfold fW; rw [if_pos e]
 ·unfold fP; rw [h]; rfl
theorem zeQ {s : List UInt8} {n : Nat} (h : flS s = some n) : fW false s = some ((n : Nat) : Int) /\ fP s = some (UInt8.ofNat n) := by
 have e : vW false s = ((n : Nat) : Int) := by unfold vW zom; rw [cond_false, h]
 have := zi6 h
 refine ⟨?_, ?_⟩
 ·unfold fW; rw [if_neg (by rw [e]; omega), e]
 ·unfold fP; rw [h]; rfl
theorem zi8 : ∀ (l : List Tok) (a : Nat), a < 32 -> ∃ o : Option Nat, (∀ x, o = some x -> x < 32) /\ zC (fW false) orI ((a : Nat) : Int) l = o.map (fun x => ((x : Nat) : Int)) /\ zC fP orP (UInt8.ofNat a) l = o.map UInt8.ofNat
 | [], a, ha => ⟨none, (fun x h => by cases h), rfl, rfl⟩
 | [t], a, ha => by
  by_cases h4 : t.1 = 4
  ·simp only [zC, if_pos h4]
   cases hf : flS t.2.1 with
   | none =>
    rw [(zex hf).1, (zex hf).2]
    exact ⟨none, (fun x h => by cases h), rfl, rfl⟩
   | some n =>
    obtain ⟨h1, h2⟩ := zi6 hf
    obtain ⟨c, c1, c2, c3⟩ := zpK ha h2
    rw [(zeQ hf).1, (zeQ hf).2]
    refine ⟨some c, (fun x h => by cases h; exact c2), ?_, ?_⟩
    ·simp only [Option.map_some, c1]
    ·simp only [Option.map_some, orP, c3]
  ·simp only [zC, if_neg h4]
   exact ⟨none, (fun x h => by cases h), rfl, rfl⟩
 | t :: s :: r, a, ha => by
  by_cases h4 : t.1 = 4
  ·simp only [zC, if_pos h4]
   cases hf : flS t.2.1 with
   | none =>
    rw [(zex hf).1, (zex hf).2]
    exact ⟨none, (fun x h => by cases h), rfl, rfl⟩
   | some n =>
    obtain ⟨h1, h2⟩ := zi6 hf
    obtain ⟨c, c1, c2, c3⟩ := zpK ha h2
    rw [(zeQ hf).1, (zeQ hf).2]
    simp only [c1, orP, c3]
    by_cases hs : s.1 = 1
    ·simp only [if_pos hs]
     exact zi8 r c c2
    ·simp only [if_neg hs]
     exact ⟨none, (fun x h => by cases h), rfl, rfl⟩
  ·simp only [zC, if_neg h4]
   exact ⟨none, (fun x h => by cases h), rfl, rfl⟩
theorem zgw {s : List UInt8} (h : xi s = 0) : fW true s = none := by
 unfold fW; rw [if_pos (show vW true s = 0 from h)]
theorem zgj {s : List UInt8} (h : ¬ xi s = 0) : fW true s = some (xi s) := by
 unfold fW; rw [if_neg (show ¬ vW true s = 0 from h)]; rfl
theorem qy {α : Type} (t : α) (r : List α) : inb (0 : Int) (List.length (t :: r)) = true := jw (i := 0) (by simp)
theorem qx (t : Tok) (r : List Tok) : nth uS1 (@List.cons Tok t r) 0 = t := rfl
theorem zp {α : Type} (t : α) (r : List α) : ze (t :: r) 1 = r := by rw [zge]; rfl
theorem zk {α : Type} (t : α) (r : List α) : qc (1 : Int) (t :: r) = true := zin (a := 1) (by simp)
theorem zfJ (y1 : List UInt8) (y2 : Int) (y3 : List UInt8) (z : Tok) (q : List Tok) (hz : z.1 = 0 \/ z.1 = 3) : ∀ (p : List Tok) (a : UInt8) (m : Nat), (∀ t ∈ p, qG t /\ t.1 ≠ 3) -> p.length < m ->
  match zC fP orP a p with
  | some x => (z.1 = 3 -> zy 3000 m (p ++ z :: q) y1 y2 y3 a = some (.inr (z :: q, y1, y2, y3, x))) /\ (z.1 ≠ 3 -> ∃ y, zy 3000 m (p ++ z :: q) y1 y2 y3 a = some (.inl y))
  | none => ∃ y, zy 3000 m (p ++ z :: q) y1 y2 y3 a = some (.inl y)
 | _, _, 0, _, h => by omega
 | [], a, m + 1, hp, h => by
  have e4 : (z.1 == (4 : Int)) = false := by rcases hz with e | e <;> rw [e] <;> rfl
  simp only [zC, List.nil_append]
  unfold zy qw
  simp only [qy, cond_true, zH, qx, Option.bind_some, e4, Bool.not_false]
  exact ⟨_, rfl⟩
 | [t], a, m + 1, hp, h => by
  obtain ⟨hok, hk⟩ := hp t (List.mem_cons_self ..)
  have e1 : (z.1 == (1 : Int)) = false := by rcases hz with e | e <;> rw [e] <;> rfl
  simp only [List.cons_append, List.nil_append]
  have hl1 : decide (List.length ([40] : List UInt8) + List.length (nth uS1 (@List.cons Tok t (z :: q)) 0).2.1 < 4611686018427387904) = true := by
   show decide (List.length ([40] : List UInt8) + List.length t.2.1 < 4611686018427387904) = true
   have := hok.2.1; simp; omega
  have hl2 : decide (List.length (([40] : List UInt8) ++ (nth uS1 (@List.cons Tok t (z :: q)) 0).2.1) + List.length ([41] : List UInt8) < 4611686018427387904) = true := by
   show decide (List.length (([40] : List UInt8) ++ t.2.1) + List.length ([41] : List UInt8) < 4611686018427387904) = true
   have := hok.2.1; simp; omega
  unfold zy qw
  simp only [qy, cond_true, zH, Option.bind_some, zp, zk, Bool.and_true, hl1, hl2]
  simp only [qx]
  by_cases h4 : t.1 = 4
  ·have e4 : (t.1 == (4 : Int)) = true := by rw [beq_iff_eq]; exact h4
   obtain ⟨h0, h32⟩ := hok.2.2 h4
   have hne : (t.2.1 != ([] : List UInt8)) = true := by simpa using h0
   simp only [e4, Bool.not_true, cond_false, xH _ hok.2.1 h0 h32, zC, if_pos h4, fP]
   cases hf : flS t.2.1 with
   | none =>
    simp only [Option.bind_some, cond_false, Option.map_none]
    exact ⟨_, rfl⟩
   | some n =>
    simp only [Option.bind_some, cond_true, Option.map_some, hne, Bool.not_true, cond_false, orP]
    by_cases hzk : z.1 = 3
    ·have e5 : (z.1 == (3 : Int)) = true := by rw [beq_iff_eq]; exact hzk
     simp only [e5, cond_true]
     exact ⟨fun _ => (by first | rfl | trivial), fun h => absurd hzk h⟩
    ·have e5 : (z.1 == (3 : Int)) = false := by simpa using hzk
     simp only [e5, cond_false, e1, Bool.not_false, cond_true]
     exact ⟨fun h => absurd h hzk, fun _ => ⟨_, rfl⟩⟩
  ·have e4 : (t.1 == (4 : Int)) = false := by simpa using h4
   simp only [zC, if_neg h4, e4, Bool.not_false, cond_true]
   exact ⟨_, rfl⟩
 | t :: s :: r, a, m + 1, hp, h => by
  obtain ⟨hok, hk⟩ := hp t (List.mem_cons_self ..)
  obtain ⟨hok2, hk2⟩ := hp s (List.mem_cons_of_mem _ (List.mem_cons_self ..))
  have ek : (s.1 == (3 : Int)) = false := by simpa using hk2
  simp only [List.cons_append]
  have hl1 : decide (List.length ([40] : List UInt8) + List.length (nth uS1 (@List.cons Tok t (s :: (r ++ z :: q))) 0).2.1 < 4611686018427387904) = true := by
   show decide (List.length ([40] : List UInt8) + List.length t.2.1 < 4611686018427387904) = true
   have := hok.2.1; simp; omega
  have hl2 : decide (List.length (([40] : List UInt8) ++ (nth uS1 (@List.cons Tok t (s :: (r ++ z :: q))) 0).2.1) + List.length ([41] : List UInt8) < 4611686018427387904) = true := by
   show decide (List.length (([40] : List UInt8) ++ t.2.1) + List.length ([41] : List UInt8) < 4611686018427387904) = true
   have := hok.2.1; simp; omega
  unfold zy qw
  simp only [qy, cond_true, zH, Option.bind_some, zp, zk, Bool.and_true, hl1, hl2]
  simp only [qx]
  by_cases h4 : t.1 = 4
  ·have e4 : (t.1 == (4 : Int)) = true := by rw [beq_iff_eq]; exact h4
   obtain ⟨h0, h32⟩ := hok.2.2 h4
   have hne : (t.2.1 != ([] : List UInt8)) = true := by simpa using h0
   simp only [e4, Bool.not_true, cond_false, xH _ hok.2.1 h0 h32, zC, if_pos h4, fP]
   cases hf : flS t.2.1 with
   | none =>
    simp only [Option.bind_some, cond_false, Option.map_none]
    exact ⟨_, rfl⟩
   | some n =>
    simp only [Option.bind_some, cond_true, Option.map_some, hne, Bool.not_true, cond_false, orP]
    simp only [ek, cond_false]
    by_cases hs : s.1 = 1
    ·have e5 : (s.1 == (1 : Int)) = true := by rw [beq_iff_eq]; exact hs
     simp only [e5, Bool.not_true, cond_false, if_pos hs]
     exact zfJ y1 y2 y3 z q hz r _ m (fun u hu => hp u (List.mem_cons_of_mem _ (List.mem_cons_of_mem _ hu))) (by simp only [List.length_cons] at h; omega)
    ·have e5 : (s.1 == (1 : Int)) = false := by simpa using hs
     simp only [e5, Bool.not_false, cond_true, if_neg hs]
     exact ⟨_, rfl⟩
  ·have e4 : (t.1 == (4 : Int)) = false := by simpa using h4
   simp only [zC, if_neg h4, e4, Bool.not_false, cond_true]
   exact ⟨_, rfl⟩
theorem zeg (y1 : List UInt8) (y2 : Int) (y3 : List (Int × Int)) (y4 : Int) (y5 : Bool) (z : Tok) (q : List Tok) (hz : z.1 = 0 \/ z.1 = 3) : ∀ (p : List Tok) (a : UInt8) (m : Nat), (∀ t ∈ p, qG t /\ t.1 ≠ 3) -> p.length < m ->
  match zC fP orP a p with
  | some x => (z.1 = 3 -> zt 3000 m (p ++ z :: q) y1 y2 y3 y4 y5 a = some (.inr (z :: q, y1, y2, y3, y4, y5, x))) /\ (z.1 ≠ 3 -> ∃ y, zt 3000 m (p ++ z :: q) y1 y2 y3 y4 y5 a = some (.inl y))
  | none => ∃ y, zt 3000 m (p ++ z :: q) y1 y2 y3 y4 y5 a = some (.inl y)
 | _, _, 0, _, h => by omega
 | [], a, m + 1, hp, h => by
  have e4 : (z.1 == (4 : Int)) = false := by rcases hz with e | e <;> rw [e] <;> rfl
  simp only [zC, List.nil_append]
  unfold zt qg
  simp only [qy, cond_true, zH, qx, Option.bind_some, e4, Bool.not_false]
  exact ⟨_, rfl⟩
 | [t], a, m + 1, hp, h => by
  obtain ⟨hok, hk⟩ := hp t (List.mem_cons_self ..)
  have e1 : (z.1 == (1 : Int)) = false := by rcases hz with e | e <;> rw [e] <;> rfl
  simp only [List.cons_append, List.nil_append]
  have hl1 : decide (List.length ([40] : List UInt8) + List.length (nth uS1 (@List.cons Tok t (z :: q)) 0).2.1 < 4611686018427387904) = true := by
   show decide (List.length ([40] : List UInt8) + List.length t.2.1 < 4611686018427387904) = true
   have := hok.2.1; simp; omega
  have hl2 : decide (List.length (([40] : List UInt8) ++ (nth uS1 (@List.cons Tok t (z :: q)) 0).2.1) + List.length ([41] : List UInt8) < 4611686018427387904) = true := by
   show decide (List.length (([40] : List UInt8) ++ t.2.1) + List.length ([41] : List UInt8) < 4611686018427387904) = true
   have := hok.2.1; simp; omega
  unfold zt qg
  simp only [qy, cond_true, zH, Option.bind_some, zp, zk, Bool.and_true, hl1, hl2]
  simp only [qx]
  by_cases h4 : t.1 = 4
  ·have e4 : (t.1 == (4 : Int)) = true := by rw [beq_iff_eq]; exact h4
   obtain ⟨h0, h32⟩ := hok.2.2 h4
   have hne : (t.2.1 != ([] : List UInt8)) = true := by simpa using h0
   simp only [e4, Bool.not_true, cond_false, xH _ hok.2.1 h0 h32, zC, if_pos h4, fP]
   cases hf : flS t.2.1 with
   | none =>
    simp only [Option.bind_some, cond_false, Option.map_none]
    exact ⟨_, rfl⟩
   | some n =>
    simp only [Option.bind_some, cond_true, Option.map_some, hne, Bool.not_true, cond_false, orP]
    by_cases hzk : z.1 = 3
    ·have e5 : (z.1 == (3 : Int)) = true := by rw [beq_iff_eq]; exact hzk
     simp only [e5, cond_true]
     exact ⟨fun _ => (by first | rfl | trivial), fun h => absurd hzk h⟩
    ·have e5 : (z.1 == (3 : Int)) = false := by simpa using hzk
     simp only [e5, cond_false, e1, Bool.not_false, cond_true]
     exact ⟨fun h => absurd h hzk, fun _ => ⟨_, rfl⟩⟩
  ·have e4 : (t.1 == (4 : Int)) = false := by simpa using h4
   simp only [zC, if_neg h4, e4, Bool.not_false, cond_true]
   exact ⟨_, rfl⟩
 | t :: s :: r, a, m + 1, hp, h => by
  obtain ⟨hok, hk⟩ := hp t (List.mem_cons_self ..)
  obtain ⟨hok2, hk2⟩ := hp s (List.mem_cons_of_mem _ (List.mem_cons_self ..))
  have ek : (s.1 == (3 : Int)) = false := by simpa using hk2
  simp only [List.cons_append]
  have hl1 : decide (List.length ([40] : List UInt8) + List.length (nth uS1 (@List.cons Tok t (s :: (r ++ z :: q))) 0).2.1 < 4611686018427387904) = true := by
   show decide (List.length ([40] : List UInt8) + List.length t.2.1 < 4611686018427387904) = true
   have := hok.2.1; simp; omega
  have hl2 : decide (List.length (([40] : List UInt8) ++ (nth uS1 (@List.cons Tok t (s :: (r ++ z :: q))) 0).2.1) + List.length ([41] : List UInt8) < 4611686018427387904) = true := by
   show decide (List.length (([40] : List UInt8) ++ t.2.1) + List.length ([41] : List UInt8) < 4611686018427387904) = true
   have := hok.2.1; simp; omega
  unfold zt qg
  simp only [qy, cond_true, zH, Option.bind_some, zp, zk, Bool.and_true, hl1, hl2]
  simp only [qx]
  by_cases h4 : t.1 = 4
  ·have e4 : (t.1 == (4 : Int)) = true := by rw [beq_iff_eq]; exact h4
   obtain ⟨h0, h32⟩ := hok.2.2 h4
   have hne : (t.2.1 != ([] : List UInt8)) = true := by simpa using h0
   simp only [e4, Bool.not_true, cond_false, xH _ hok.2.1 h0 h32, zC, if_pos h4, fP]
   cases hf : flS t.2.1 with
   | none =>
    simp only [Option.bind_some, cond_false, Option.map_none]
    exact ⟨_, rfl⟩
   | some n =>
    simp only [Option.bind_some, cond_true, Option.map_some, hne, Bool.not_true, cond_false, orP]
    simp only [ek, cond_false]
    by_cases hs : s.1 = 1
    ·have e5 : (s.1 == (1 : Int)) = true := by rw [beq_iff_eq]; exact hs
     simp only [e5, Bool.not_true, cond_false, if_pos hs]
     exact zeg y1 y2 y3 y4 y5 z q hz r _ m (fun u hu => hp u (List.mem_cons_of_mem _ (List.mem_cons_of_mem _ hu))) (by simp only [List.length_cons] at h; omega)
    ·have e5 : (s.1 == (1 : Int)) = false := by simpa using hs
     simp only [e5, Bool.not_false, cond_true, if_neg hs]
     exact ⟨_, rfl⟩
  ·have e4 : (t.1 == (4 : Int)) = false := by simpa using h4
   simp only [zC, if_neg h4, e4, Bool.not_false, cond_true]
   exact ⟨_, rfl⟩
theorem zgT (y1 : List UInt8) (y2 : Int) (y3 : List (Int × Int)) (y4 : Int) (y5 : Bool) (z : Tok) (q : List Tok) (hz : z.1 = 0 \/ z.1 = 3) : ∀ (p : List Tok) (a : UInt8) (m : Nat), (∀ t ∈ p, qG t /\ t.1 ≠ 0) -> p.length < m ->
  match zC fP orP a p with
  | some x => (z.1 = 0 -> zz 3000 m (p ++ z :: q) y1 y2 y3 y4 y5 a = some (.inr (z :: q, y1, y2, y3, y4, y5, x))) /\ (z.1 ≠ 0 -> ∃ y, zz 3000 m (p ++ z :: q) y1 y2 y3 y4 y5 a = some (.inl y))
  | none => ∃ y, zz 3000 m (p ++ z :: q) y1 y2 y3 y4 y5 a = some (.inl y)
 | _, _, 0, _, h => by omega
 | [], a, m + 1, hp, h => by
  have e4 : (z.1 == (4 : Int)) = false := by rcases hz with e | e <;> rw [e] <;> rfl
  simp only [zC, List.nil_append]
  unfold zz qh
  simp only [qy, cond_true, zH, qx, Option.bind_some, e4, Bool.not_false]
  exact ⟨_, rfl⟩
 | [t], a, m + 1, hp, h => by
  obtain ⟨hok, hk⟩ := hp t (List.mem_cons_self ..)
  have e1 : (z.1 == (1 : Int)) = false := by rcases hz with e | e <;> rw [e] <;> rfl
  simp only [List.cons_append, List.nil_append]
  have hl1 : decide (List.length ([40] : List UInt8) + List.length (nth uS1 (@List.cons Tok t (z :: q)) 0).2.1 < 4611686018427387904) = true := by
   show decide (List.length ([40] : List UInt8) + List.length t.2.1 < 4611686018427387904) = true
   have := hok.2.1; simp; omega
  have hl2 : decide (List.length (([40] : List UInt8) ++ (nth uS1 (@List.cons Tok t (z :: q)) 0).2.1) + List.length ([41] : List UInt8) < 4611686018427387904) = true := by
   show decide (List.length (([40] : List UInt8) ++ t.2.1) + List.length ([41] : List UInt8) < 4611686018427387904) = true
   have := hok.2.1; simp; omega
  unfold zz qh
  simp only [qy, cond_true, zH, Option.bind_some, zp, zk, Bool.and_true, hl1, hl2]
  simp only [qx]
  by_cases h4 : t.1 = 4
  ·have e4 : (t.1 == (4 : Int)) = true := by rw [beq_iff_eq]; exact h4
   obtain ⟨h0, h32⟩ := hok.2.2 h4
   have hne : (t.2.1 != ([] : List UInt8)) = true := by simpa using h0
   simp only [e4, Bool.not_true, cond_false, xH _ hok.2.1 h0 h32, zC, if_pos h4, fP]
   cases hf : flS t.2.1 with
   | none =>
    simp only [Option.bind_some, cond_false, Option.map_none]
    exact ⟨_, rfl⟩
   | some n =>
    simp only [Option.bind_some, cond_true, Option.map_some, hne, Bool.not_true, cond_false, orP]
    by_cases hzk : z.1 = 0
    ·have e5 : (z.1 == (0 : Int)) = true := by rw [beq_iff_eq]; exact hzk
     simp only [e5, cond_true]
     exact ⟨fun _ => (by first | rfl | trivial), fun h => absurd hzk h⟩
    ·have e5 : (z.1 == (0 : Int)) = false := by simpa using hzk
     simp only [e5, cond_false, e1, Bool.not_false, cond_true]
     exact ⟨fun h => absurd h hzk, fun _ => ⟨_, rfl⟩⟩
  ·have e4 : (t.1 == (4 : Int)) = false := by simpa using h4
   simp only [zC, if_neg h4, e4, Bool.not_false, cond_true]
   exact ⟨_, rfl⟩
 | t :: s :: r, a, m + 1, hp, h => by
  obtain ⟨hok, hk⟩ := hp t (List.mem_cons_self ..)
  obtain ⟨hok2, hk2⟩ := hp s (List.mem_cons_of_mem _ (List.mem_cons_self ..))
  have ek : (s.1 == (0 : Int)) = false := by simpa using hk2
  simp only [List.cons_append]
  have hl1 : decide (List.length ([40] : List UInt8) + List.length (nth uS1 (@List.cons Tok t (s :: (r ++ z :: q))) 0).2.1 < 4611686018427387904) = true := by
   show decide (List.length ([40] : List UInt8) + List.length t.2.1 < 4611686018427387904) = true
   have := hok.2.1; simp; omega
  have hl2 : decide (List.length (([40] : List UInt8) ++ (nth uS1 (@List.cons Tok t (s :: (r ++ z :: q))) 0).2.1) + List.length ([41] : List UInt8) < 4611686018427387904) = true := by
   show decide (List.length (([40] : List UInt8) ++ t.2.1) + List.length ([41] : List UInt8) < 4611686018427387904) = true
   have := hok.2.1; simp; omega
  unfold zz qh
  simp only [qy, cond_true, zH, Option.bind_some, zp, zk, Bool.and_true, hl1, hl2]
  simp only [qx]
  by_cases h4 : t.1 = 4
  ·have e4 : (t.1 == (4 : Int)) = true := by rw [beq_iff_eq]; exact h4
   obtain ⟨h0, h32⟩ := hok.2.2 h4
   have hne : (t.2.1 != ([] : List UInt8)) = true := by simpa using h0
   simp only [e4, Bool.not_true, cond_false, xH _ hok.2.1 h0 h32, zC, if_pos h4, fP]
   cases hf : flS t.2.1 with
   | none =>
    simp only [Option.bind_some, cond_false, Option.map_none]
    exact ⟨_, rfl⟩
   | some n =>
    simp only [Option.bind_some, cond_true, Option.map_some, hne, Bool.not_true, cond_false, orP]
    simp only [ek, cond_false]
    by_cases hs : s.1 = 1
    ·have e5 : (s.1 == (1 : Int)) = true := by rw [beq_iff_eq]; exact hs
     simp only [e5, Bool.not_true, cond_false, if_pos hs]
     exact zgT y1 y2 y3 y4 y5 z q hz r _ m (fun u hu => hp u (List.mem_cons_of_mem _ (List.mem_cons_of_mem _ hu))) (by simp only [List.length_cons] at h; omega)
    ·have e5 : (s.1 == (1 : Int)) = false := by simpa using hs
     simp only [e5, Bool.not_false, cond_true, if_neg hs]
     exact ⟨_, rfl⟩
  ·have e4 : (t.1 == (4 : Int)) = false := by simpa using h4
   simp only [zC, if_neg h4, e4, Bool.not_false, cond_true]
   exact ⟨_, rfl⟩
theorem zer (y1 : List UInt8) (y2 : Int) (y3 : List (Int × Int)) (y5 : UInt8) (z : Tok) (q : List Tok) (hz : z.1 = 0 \/ z.1 = 3) : ∀ (p : List Tok) (a : Int) (m : Nat), (∀ t ∈ p, qG t /\ t.1 ≠ 3) -> p.length < m ->
  match zC (fW true) orI a p with
  | some x => (z.1 = 3 -> zv 3000 m (p ++ z :: q) y1 y2 y3 a y5 = some (.inr (z :: q, y1, y2, y3, x, y5))) /\ (z.1 ≠ 3 -> ∃ y, zv 3000 m (p ++ z :: q) y1 y2 y3 a y5 = some (.inl y))
  | none => ∃ y, zv 3000 m (p ++ z :: q) y1 y2 y3 a y5 = some (.inl y)
 | _, _, 0, _, h => by omega
 | [], a, m + 1, hp, h => by
  have e4 : (z.1 == (4 : Int)) = false := by rcases hz with e | e <;> rw [e] <;> rfl
  simp only [zC, List.nil_append]
  unfold zv qj
  simp only [qy, cond_true, zH, qx, Option.bind_some, e4, Bool.not_false]
  exact ⟨_, rfl⟩
 | [t], a, m + 1, hp, h => by
  obtain ⟨hok, hk⟩ := hp t (List.mem_cons_self ..)
  have e1 : (z.1 == (1 : Int)) = false := by rcases hz with e | e <;> rw [e] <;> rfl
  simp only [List.cons_append, List.nil_append]
  unfold zv qj
  simp only [qy, cond_true, zH, qx, Option.bind_some, zp, zk, Bool.and_true]
  by_cases h4 : t.1 = 4
  ·have e4 : (t.1 == (4 : Int)) = true := by rw [beq_iff_eq]; exact h4
   have hi := zd3 _ hok.2.1
   simp only [e4, Bool.not_true, cond_false, zaQ _ hok.2.1, Option.bind_some, zC, if_pos h4]
   by_cases h0 : xi t.2.1 = 0
   ·have hd : decide (0 < xi t.2.1) = false := by simp; omega
    simp only [zgw h0, Option.map_none, hd, Bool.not_false, cond_true]
    exact ⟨_, rfl⟩
   ·have hd : decide (0 < xi t.2.1) = true := by simp; omega
    simp only [zgj h0, Option.map_some, hd, Bool.not_true, cond_false, orI]
    by_cases hzk : z.1 = 3
    ·have e5 : (z.1 == (3 : Int)) = true := by rw [beq_iff_eq]; exact hzk
     simp only [e5, cond_true]
     exact ⟨fun _ => (by first | rfl | trivial), fun h => absurd hzk h⟩
    ·have e5 : (z.1 == (3 : Int)) = false := by simpa using hzk
     simp only [e5, cond_false, e1, Bool.not_false, cond_true]
     exact ⟨fun h => absurd h hzk, fun _ => ⟨_, rfl⟩⟩
  ·have e4 : (t.1 == (4 : Int)) = false := by simpa using h4
   simp only [zC, if_neg h4, e4, Bool.not_false, cond_true]
   exact ⟨_, rfl⟩
 | t :: s :: r, a, m + 1, hp, h => by
  obtain ⟨hok, hk⟩ := hp t (List.mem_cons_self ..)
  obtain ⟨hok2, hk2⟩ := hp s (List.mem_cons_of_mem _ (List.mem_cons_self ..))
  have ek : (s.1 == (3 : Int)) = false := by simpa using hk2
  simp only [List.cons_append]
  unfold zv qj
  simp only [qy, cond_true, zH, qx, Option.bind_some, zp, zk, Bool.and_true]
  by_cases h4 : t.1 = 4
  ·have e4 : (t.1 == (4 : Int)) = true := by rw [beq_iff_eq]; exact h4
   have hi := zd3 _ hok.2.1
   simp only [e4, Bool.not_true, cond_false, zaQ _ hok.2.1, Option.bind_some, zC, if_pos h4]
   by_cases h0 : xi t.2.1 = 0
   ·have hd : decide (0 < xi t.2.1) = false := by simp; omega
    simp only [zgw h0, hd, Bool.not_false, cond_true]
    exact ⟨_, rfl⟩
   ·have hd : decide (0 < xi t.2.1) = true := by simp; omega
    simp only [zgj h0, hd, Bool.not_true, cond_false, orI]
    simp only [ek, cond_false]
    by_cases hs : s.1 = 1
    ·have e5 : (s.1 == (1 : Int)) = true := by rw [beq_iff_eq]; exact hs
     simp only [e5, Bool.not_true, cond_false, if_pos hs]
     exact zer y1 y2 y3 y5 z q hz r _ m (fun u hu => hp u (List.mem_cons_of_mem _ (List.mem_cons_of_mem _ hu))) (by simp only [List.length_cons] at h; omega)
    ·have e5 : (s.1 == (1 : Int)) = false := by simpa using hs
     simp only [e5, Bool.not_false, cond_true, if_neg hs]
     exact ⟨_, rfl⟩
  ·have e4 : (t.1 == (4 : Int)) = false := by simpa using h4
   simp only [zC, if_neg h4, e4, Bool.not_false, cond_true]
   exact ⟨_, rfl⟩
def ze3 : List Tok -> Option (List Tok × List Tok)
 | [] => none
 | t :: r => if t.1 = 3 then some ([], r) else (ze3 r).map fun p => (t :: p.1, p.2)
theorem xS : ∀ {l p q : List Tok}, ze3 l = some (p, q) -> ∃ z : Tok, z.1 = 3 /\ l = p ++ z :: q /\ ∀ t ∈ p, t.1 ≠ 3
 | [], p, q, h => by cases h
 | t :: r, p, q, h => by
  unfold ze3 at h
  by_cases h3 : t.1 = 3
  ·rw [if_pos h3] at h
   cases h
   exact ⟨t, h3, rfl, (fun _ h => by cases h)⟩
  ·rw [if_neg h3] at h
   cases hc : ze3 r with
   | none => rw [hc] at h; cases h
   | some pq =>
    rw [hc] at h
    cases h
    obtain ⟨z, h1, h2, h4⟩ := xS (p := pq.1) (q := pq.2) hc
    refine ⟨z, h1, by rw [h2]; rfl, fun u hu => ?_⟩
    rcases List.mem_cons.1 hu with rfl | hu
    ·exact h3
    ·exact h4 u hu
theorem zcs : ∀ {l : List Tok}, ze3 l = none -> ∀ t ∈ l, t.1 ≠ 3
 | [], _, _, h => by cases h
 | t :: r, h, u, hu => by
  unfold ze3 at h
  by_cases h3 : t.1 = 3
  ·rw [if_pos h3] at h; cases h
  ·rw [if_neg h3] at h
   cases hc : ze3 r with
   | some pq => rw [hc] at h; cases h
   | none =>
    rcases List.mem_cons.1 hu with rfl | hu
    ·exact h3
    ·exact zcs hc u hu
def brS (items : Bool) : List Tok -> Option (Int × List Tok)
 | [] => none
 | a :: r => if a.1 = 2 then (match ze3 r with
  | none => none
  | some ([], q) => cond items none (some (0, q))
  | some (t :: p, q) => (zC (fW items) orI 0 (t :: p)).map fun x => (x, q)) else none
def zmG : Option (Int × List Tok) -> Option Int
 | some (x, []) => some x
 | _ => none
theorem zjU {items : Bool} {l q : List Tok} {x : Int} (h : brS items l = some (x, q)) : ∃ pre, l = pre ++ q := by
 cases l with
 | nil => cases h
 | cons a r =>
  unfold brS at h
  simp only at h
  by_cases h2 : a.1 = 2
  ·rw [if_pos h2] at h
   cases hc : ze3 r with
   | none => rw [hc] at h; cases h
   | some pq =>
    obtain ⟨p, q'⟩ := pq
    obtain ⟨z, z1, z2, z3⟩ := xS hc
    have hq : q' = q := by
     rw [hc] at h
     cases p with
     | nil => cases items <;> simp only [cond_true, cond_false] at h <;> cases h <;> rfl
     | cons t p =>
      simp only at h
      cases hw : zC (fW items) orI 0 (t :: p) with
      | none => rw [hw] at h; cases h
      | some y => rw [hw] at h; cases h; rfl
    rw [<- hq, z2]
    exact ⟨a :: p ++ [z], by simp⟩
  ·rw [if_neg h2] at h; cases h
def cA (tag : List UInt8) (k : Int) (m : List UInt8) (f : UInt8) (d : List UInt8) : El uS2 := (tag, (k, (m, ([], (0, (0, (false, (f, d))))))))
def ziD : List Tok -> Option (UInt8 × List UInt8)
 | [] => none
 | [d] => if d.1 = 6 then some (0, d.2.1) else none
 | a :: b :: r => match brS false (a :: b :: r) with
  | some (x, [s, d]) => if s.1 = 1 /\ d.1 = 6 then some (zao x, d.2.1) else none
  | _ => none
def wF : List UInt8 := [70, 76, 65, 71, 83]
def wP : List UInt8 := [43, 70, 76, 65, 71, 83]
def wM : List UInt8 := [45, 70, 76, 65, 71, 83]
def wS : List UInt8 := [46, 83, 73, 76, 69, 78, 84]
def mW (w : List UInt8) (b : Bool) : Option (Int × Bool) := cond (w == wF) (some (0, b)) (cond (w == wP) (some (1, b)) (cond (w == wM) (some (2, b)) none))
def zke (u : List UInt8) : Option (Int × Bool) := if 7 <= u.length /\ u.drop (u.length - 7) = wS then mW (u.take (u.length - 7)) true else mW u false
def zkq (s : List UInt8) : Option (Int × Bool) := zke (s.map up)
theorem zpb (u : List UInt8) : zg 3000 3000 [([70, 76, 65, 71, 83] : List UInt8), ([43, 70, 76, 65, 71, 83] : List UInt8), ([45, 70, 76, 65, 71, 83] : List UInt8)] u 3 0 = (cond (u == ([70, 76, 65, 71, 83] : List UInt8)) (some (.inl 0)) (cond (u == ([43, 70, 76, 65, 71, 83] : List UInt8)) (some (.inl 1)) (cond (u == ([45, 70, 76, 65, 71, 83] : List UInt8)) (some (.inl 2)) (some (.inr ()))))) := by kernel_rfl
theorem zow (w : List UInt8) (b : Bool) : ∃ i : Int, zl 3000 [([70, 76, 65, 71, 83] : List UInt8), ([43, 70, 76, 65, 71, 83] : List UInt8), ([45, 70, 76, 65, 71, 83] : List UInt8)] w = some (i, ()) /\ (match mW w b with
  | some (m, b') => i = m /\ b' = b /\ 0 <= i
  | none => i = -1) := by
 unfold zl
 rw [show zg 3000 3000 [([70, 76, 65, 71, 83] : List UInt8), ([43, 70, 76, 65, 71, 83] : List UInt8), ([45, 70, 76, 65, 71, 83] : List UInt8)] w (((List.length ([([70, 76, 65, 71, 83] : List UInt8), ([43, 70, 76, 65, 71, 83] : List UInt8), ([45, 70, 76, 65, 71, 83] : List UInt8)] : List (List UInt8))) : Nat) : Int) 0 = _ from zpb w]
 unfold mW wF wP wM
 cases w == ([70, 76, 65, 71, 83] : List UInt8) with
 | true => exact ⟨0, rfl, rfl, rfl, by omega⟩
 | false =>
  cases w == ([43, 70, 76, 65, 71, 83] : List UInt8) with
  | true => exact ⟨1, rfl, rfl, rfl, by omega⟩
  | false =>
   cases w == ([45, 70, 76, 65, 71, 83] : List UInt8) with
   | true => exact ⟨2, rfl, rfl, rfl, by omega⟩
   | false => exact ⟨-1, rfl, rfl⟩
theorem zkT (u : List UInt8) (hl : u.length <= 2000) : ∃ (w : List UInt8) (b : Bool) (i : Int), zM 3000 u ([46, 83, 73, 76, 69, 78, 84] : List UInt8) = some (w, b, ()) /\ zl 3000 [([70, 76, 65, 71, 83] : List UInt8), ([43, 70, 76, 65, 71, 83] : List UInt8), ([45, 70, 76, 65, 71, 83] : List UInt8)] w = some (i, ()) /\ (match zke u with
  | some (m, b') => i = m /\ b' = b /\ 0 <= i
  | none => i = -1) := by
 unfold zM zY z7 zke
 by_cases h7 : 7 <= u.length
 ·have e1 : decide ((((List.length ([46, 83, 73, 76, 69, 78, 84] : List UInt8)) : Nat) : Int) <= (((List.length u) : Nat) : Int)) = true := by simp; omega
  have e2 : IntKind.wrap .i64 ((((List.length u) : Nat) : Int) - (((List.length ([46, 83, 73, 76, 69, 78, 84] : List UInt8)) : Nat) : Int)) = ((u.length - 7 : Nat) : Int) := by
   rw [show (((List.length ([46, 83, 73, 76, 69, 78, 84] : List UInt8)) : Nat) : Int) = 7 from rfl, wri (by omega) (by omega)]; omega
  have e3 := xQ (a := u.length - 7) (b := u.length) (n := u.length) (by omega) (by omega)
  have e4 := xQ (a := 0) (b := u.length - 7) (n := u.length) (by omega) (by omega)
  rw [show ((0 : Nat) : Int) = (0 : Int) from rfl] at e4
  simp only [e1, cond_true, e2, e3, e4, Int.toNat_natCast, xG, zbg, Option.bind_some]
  by_cases hw : u.drop (u.length - 7) = wS
  ·have e5 : (u.drop (u.length - 7) == ([46, 83, 73, 76, 69, 78, 84] : List UInt8)) = true := by rw [beq_iff_eq]; exact hw
   rw [e5, if_pos ⟨h7, hw⟩]
   simp only [Bool.not_true, cond_false, Option.bind_some]
   obtain ⟨i, h1, h2⟩ := zow (u.take (u.length - 7)) true
   exact ⟨_, _, i, rfl, h1, h2⟩
  ·have e5 : (u.drop (u.length - 7) == ([46, 83, 73, 76, 69, 78, 84] : List UInt8)) = false := by
    cases e : u.drop (u.length - 7) == ([46, 83, 73, 76, 69, 78, 84] : List UInt8) with
    | false => rfl
    | true => rw [beq_iff_eq] at e; exact absurd e hw
   rw [e5, if_neg (fun h => hw h.2)]
   simp only [Bool.not_false, cond_true, Option.bind_some]
   obtain ⟨i, h1, h2⟩ := zow u false
   exact ⟨_, _, i, rfl, h1, h2⟩
 ·have e1 : decide ((((List.length ([46, 83, 73, 76, 69, 78, 84] : List UInt8)) : Nat) : Int) <= (((List.length u) : Nat) : Int)) = false := by simp; omega
  rw [if_neg (fun h => h7 h.1)]
  simp only [e1, cond_false, Option.bind_some, Bool.not_false, cond_true]
  obtain ⟨i, h1, h2⟩ := zow u false
  exact ⟨_, _, i, rfl, h1, h2⟩

def zfN (tag : List UInt8) : El uS2 := (tag, (0, ([], ([], (0, (0, (false, (0, []))))))))
def zjh (tag : List UInt8) (o : Option (El uS2)) : Option ((El uS2) × Bool × Unit) := some (match o with
 | some c => (c, true, ())
 | none => (zfN tag, false, ()))
def cI (tag : List UInt8) (k : Int) (st : List (Int × Int)) (x : Int) : El uS2 := (tag, (k, ([], (st, (x, (0, (false, (0, []))))))))
def cS (tag : List UInt8) (k : Int) (st : List (Int × Int)) (m : Int) (b : Bool) (f : UInt8) : El uS2 := (tag, (k, ([], (st, (0, (m, (b, (f, []))))))))
def tk {A : Type} (k : Int) (l : List Tok) (f : Tok -> List Tok -> Option A) : Option A := match l with
 | [] => none
 | t :: r => if t.1 = k then f t r else none
def tkM {A : Type} (l : List Tok) (f : Tok -> List Tok -> Option A) : Option A := match l with
 | [] => none
 | t :: r => if zkX t = true then f t r else none
def tkE {A : Type} (l : List Tok) (x : A) : Option A := match l with
 | [] => some x
 | _ :: _ => none
theorem eqT {a b : Int} (h : a = b) : (a == b) = true := by rw [beq_iff_eq]; exact h
theorem eqF {a b : Int} (h : ¬ a = b) : (a == b) = false := by simpa using h
theorem neT {a b : Int} (h : ¬ a = b) : (a != b) = true := by simpa using h
theorem neF {a b : Int} (h : a = b) : (a != b) = false := by simpa using h
theorem zoX (tag : List UInt8) (kd : Int) (e : Tok) (he : e.1 = 0) (r : List Tok) (hk : ∀ t ∈ r, qG t) : B1 3000 tag kd (r ++ [e]) = zjh tag (tkE r (cA tag kd [] 0 [])) := by
 cases r with
 | nil =>
  simp only [List.nil_append]
  unfold B1
  simp only [qy, cond_true, cond_false, zH, qx, Option.bind_some, zk, Bool.and_true, Bool.not_true, eqT he]
  rfl
 | cons t r =>
  have h0 : ¬ t.1 = 0 := by have := (hk t (List.mem_cons_self ..)).1; omega
  simp only [List.cons_append]
  unfold B1
  simp only [qy, cond_true, zH, qx, Option.bind_some, zk, Bool.and_true, Bool.not_false, eqF h0]
  rfl
theorem zoE (tag : List UInt8) (kd : Int) (mb : List UInt8) (e : Tok) (he : e.1 = 0) (r : List Tok) (hk : ∀ t ∈ r, qG t) : E5 3000 tag kd mb (r ++ [e]) = zjh tag (tkE r (cA tag kd mb 0 [])) := by
 cases r with
 | nil =>
  simp only [List.nil_append]
  unfold E5
  simp only [qy, cond_true, cond_false, zH, qx, Option.bind_some, zk, Bool.and_true, Bool.not_true, eqT he]
  rfl
 | cons t r =>
  have h0 : ¬ t.1 = 0 := by have := (hk t (List.mem_cons_self ..)).1; omega
  simp only [List.cons_append]
  unfold E5
  simp only [qy, cond_true, zH, qx, Option.bind_some, zk, Bool.and_true, Bool.not_false, eqF h0]
  rfl
def zl3 (tag : List UInt8) (kd : Int) (mb : List UInt8) (f : UInt8) (q : List Tok) : Option (El uS2) := match q with
 | [s, d] => if s.1 = 1 /\ d.1 = 6 then some (cA tag kd mb f d.2.1) else none
 | _ => none
theorem zmc (tag : List UInt8) (kd : Int) (mb : List UInt8) (f : UInt8) (e : Tok) (he : e.1 = 0) (z : Tok) (hz : z.1 = 3) (q : List Tok) (hk : ∀ t ∈ q, qG t) : G6 3000 tag tag kd mb f (z :: (q ++ [e])) = zjh tag (zl3 tag kd mb f q) := by
 have f1 : ¬ e.1 = 1 := by omega
 have f6 : ¬ e.1 = 6 := by omega
 unfold G6
 simp only [qy, cond_true, cond_false, zH, qx, Option.bind_some, zp, zk, Bool.and_true, Bool.not_true, eqT hz]
 match q, hk with
 | [], _ => simp only [qy, cond_true, qx, zp, zk, Bool.not_false, List.nil_append, eqF f1]; rfl
 | [s], _ =>
  by_cases h1 : s.1 = 1
  ·simp only [qy, cond_true, cond_false, qx, zp, zk, Bool.not_true, Bool.not_false, List.cons_append, List.nil_append, eqT h1, eqF f6]; rfl
  ·simp only [qy, cond_true, qx, zp, zk, Bool.not_false, List.cons_append, List.nil_append, eqF h1]; rfl
 | [s, d], hk =>
  have eb := zgr (n := d.2.1.length) (by have := (hk d (by simp)).2.1; omega)
  by_cases h1 : s.1 = 1
  ·by_cases h6 : d.1 = 6
   ·simp only [qy, cond_true, cond_false, qx, zp, zk, Bool.not_true, List.cons_append, List.nil_append, eqT h1, eqT h6, eqT he, eb, zl3, if_pos (And.intro h1 h6)]; rfl
   ·simp only [qy, cond_true, cond_false, qx, zp, zk, Bool.not_true, Bool.not_false, List.cons_append, List.nil_append, eqT h1, eqF h6, zl3, if_neg (fun h : s.1 = 1 /\ d.1 = 6 => h6 h.2)]; rfl
  ·simp only [qy, cond_true, qx, zp, zk, Bool.not_false, List.cons_append, List.nil_append, eqF h1, zl3, if_neg (fun h : s.1 = 1 /\ d.1 = 6 => h1 h.1)]; rfl
 | s :: d :: t :: q, hk =>
  have eb := zgr (n := d.2.1.length) (by have := (hk d (by simp)).2.1; omega)
  have h0 : ¬ t.1 = 0 := by have := (hk t (by simp)).1; omega
  by_cases h1 : s.1 = 1
  ·by_cases h6 : d.1 = 6
   ·simp only [qy, cond_true, cond_false, qx, zp, zk, Bool.not_true, Bool.not_false, List.cons_append, eqT h1, eqT h6, eqF h0, eb, zl3]; rfl
   ·simp only [qy, cond_true, cond_false, qx, zp, zk, Bool.not_true, Bool.not_false, List.cons_append, eqT h1, eqF h6, zl3]; rfl
  ·simp only [qy, cond_true, qx, zp, zk, Bool.not_false, List.cons_append, eqF h1, zl3]; rfl
theorem zjq (tag : List UInt8) (kd : Int) (mb : List UInt8) (x : Int) (q : List Tok) : ((match some (x, q) with
  | some (x, [s, d]) => if s.1 = 1 /\ d.1 = 6 then some (zao x, d.2.1) else none
  | _ => none : Option (UInt8 × List UInt8)).map fun p => cA tag kd mb p.1 p.2) = zl3 tag kd mb (zao x) q := by
 match q with
 | [] => rfl
 | [s] => rfl
 | [s, d] =>
  unfold zl3
  by_cases h : s.1 = 1 /\ d.1 = 6
  ·simp only [if_pos h, Option.map_some]
  ·simp only [if_neg h, Option.map_none]
 | s :: d :: t :: q => rfl
theorem zns (tag : List UInt8) (kd : Int) (mb : List UInt8) (a : Tok) (h2 : a.1 = 2) (r : List Tok) : ((ziD (a :: r)).map fun p => cA tag kd mb p.1 p.2) = match ze3 r with
  | none => none
  | some ([], q) => zl3 tag kd mb 0 q
  | some (t :: p, q) => (zC (fW false) orI 0 (t :: p)).bind fun x => zl3 tag kd mb (zao x) q := by
 cases r with
 | nil =>
  have h6 : ¬ a.1 = 6 := by omega
  simp only [ziD, if_neg h6, ze3, Option.map_none]
 | cons b r =>
  unfold ziD brS
  simp only [if_pos h2]
  cases hc : ze3 (b :: r) with
  | none => rfl
  | some pq =>
   obtain ⟨p, q⟩ := pq
   cases p with
   | nil => simp only [cond_false]; exact zjq tag kd mb 0 q
   | cons t p =>
    simp only
    cases zC (fW false) orI 0 (t :: p) with
    | none => rfl
    | some x => simp only [Option.map_some, Option.bind_some]; exact zjq tag kd mb x q
theorem zi3 (r : List Tok) (e : Tok) : ∃ t r', r ++ [e] = t :: r' /\ (t = e \/ t ∈ r) := by
 cases r with
 | nil => exact ⟨e, [], rfl, .inl rfl⟩
 | cons t r => exact ⟨t, r ++ [e], rfl, .inr (List.mem_cons_self ..)⟩
theorem zox (tag : List UInt8) (kd : Int) (mb : List UInt8) (e : Tok) (he : e.1 = 0) (r : List Tok) (hl : r.length <= 2000) (hk : ∀ t ∈ r, qG t) : D6 3000 tag kd mb (r ++ [e]) = zjh tag ((ziD r).map fun p => cA tag kd mb p.1 p.2) := by
 have f2 : ¬ e.1 = 2 := by omega
 have f6 : ¬ e.1 = 6 := by omega
 have f3 : ¬ e.1 = 3 := by omega
 cases r with
 | nil =>
  simp only [List.nil_append]
  unfold D6
  simp only [qy, cond_true, cond_false, zH, qx, Option.bind_some, zp, zk, Bool.and_true, Bool.not_false, eqF f2, eqF f6]
  rfl
 | cons a r =>
  have hkr : ∀ t ∈ r, qG t := fun t ht => hk t (List.mem_cons_of_mem _ ht)
  by_cases h2 : a.1 = 2
  ·rw [zns tag kd mb a h2 r]
   cases hc : ze3 r with
   | none =>
    have hn := zcs hc
    have hl46 := zfJ tag kd mb e [] (.inl he) r 0 3000 (fun t ht => ⟨hkr t ht, hn t ht⟩) (by simp only [List.length_cons] at hl; omega)
    have : ∃ y, zy 3000 3000 (r ++ [e]) tag kd mb 0 = some (.inl y) := by
     cases hw : zC fP orP 0 r with
     | none => rw [hw] at hl46; exact hl46
     | some x => rw [hw] at hl46; exact hl46.2 f3
    obtain ⟨y, hy⟩ := this
    obtain ⟨t, r', hr, ht⟩ := zi3 r e
    have ht3 : ¬ t.1 = 3 := by
     rcases ht with rfl | ht
     ·exact f3
     ·exact hn t ht
    simp only [List.cons_append]
    rw [hr] at hy |-
    unfold D6
    simp only [qy, cond_true, cond_false, zH, qx, Option.bind_some, zp, zk, Bool.and_true, Bool.not_true, eqT h2, neT ht3, hy, zm]
    rfl
   | some pq =>
    obtain ⟨p, q⟩ := pq
    obtain ⟨z, z1, z2, z3⟩ := xS hc
    subst z2
    have hkq : ∀ t ∈ q, qG t := fun t ht => hkr t (List.mem_append_right _ (List.mem_cons_of_mem _ ht))
    rw [show (a :: (p ++ z :: q)) ++ [e] = a :: (p ++ z :: (q ++ [e])) from by simp]
    cases p with
    | nil =>
     unfold D6
     simp only [qy, cond_true, cond_false, zH, qx, Option.bind_some, zp, zk, Bool.and_true, Bool.not_true, List.nil_append, eqT h2, neF z1, zmc tag kd mb _ e he z z1 q hkq]
    | cons t p =>
     have hl46 := zfJ tag kd mb z (q ++ [e]) (.inr z1) (t :: p) 0 3000 (fun u hu => ⟨hkr u (List.mem_append_left _ hu), z3 u hu⟩) (by simp only [List.length_cons, List.length_append] at hl |-; omega)
     obtain ⟨o, o1, o2, o3⟩ := zi8 (t :: p) 0 (by omega)
     rw [show UInt8.ofNat 0 = (0 : UInt8) from rfl] at o3
     rw [show ((0 : Nat) : Int) = (0 : Int) from rfl] at o2
     have ht3 := z3 t (List.mem_cons_self ..)
     unfold D6
     cases o with
     | none =>
      rw [o3] at hl46
      simp only [Option.map_none, List.cons_append] at hl46
      obtain ⟨y, hy⟩ := hl46
      simp only [qy, cond_true, cond_false, zH, qx, Option.bind_some, zp, zk, Bool.and_true, Bool.not_true, List.cons_append, eqT h2, neT ht3, hy, zm, o2, Option.map_none, Option.bind_none]
      rfl
     | some n =>
      rw [o3] at hl46
      simp only [Option.map_some, List.cons_append] at hl46
      have hy := hl46.1 z1
      have hn := o1 n rfl
      simp only [qy, cond_true, cond_false, zH, qx, Option.bind_some, zp, zk, Bool.and_true, Bool.not_true, List.cons_append, eqT h2, neT ht3, hy, zm, o2, Option.map_some, zmc tag kd mb _ e he z z1 q hkq, jl (show n < 256 by omega)]
  ·simp only [List.cons_append]
   unfold D6
   by_cases h6 : a.1 = 6
   ·have eb := zgr (n := a.2.1.length) (by have := (hk a (by simp)).2.1; omega)
    cases r with
    | nil =>
     simp only [qy, cond_true, cond_false, zH, qx, Option.bind_some, zp, zk, Bool.and_true, Bool.not_true, Bool.not_false, List.nil_append, eqF h2, eqT h6, eb, eqT he, ziD, if_pos h6]
     rfl
    | cons b r =>
     have h0 : ¬ b.1 = 0 := by have := (hkr b (by simp)).1; omega
     simp only [qy, cond_true, cond_false, zH, qx, Option.bind_some, zp, zk, Bool.and_true, Bool.not_true, Bool.not_false, List.cons_append, eqF h2, eqT h6, eb, eqF h0, ziD, brS, if_neg h2]
     rfl
   ·have hs : ziD (a :: r) = none := by
     cases r with
     | nil => simp only [ziD, if_neg h6]
     | cons b r => simp only [ziD, brS, if_neg h2]
    simp only [qy, cond_true, cond_false, zH, qx, Option.bind_some, zp, zk, Bool.and_true, Bool.not_false, eqF h2, eqF h6, hs]
    rfl
theorem zoG (tag : List UInt8) (kd : Int) (mb : List UInt8) (e : Tok) (he : e.1 = 0) (r : List Tok) (hl : r.length <= 2000) (hk : ∀ t ∈ r, qG t) : C6 3000 tag kd mb (r ++ [e]) = zjh tag (tk 1 r fun _ r => (ziD r).map fun p => cA tag kd mb p.1 p.2) := by
 have f1 : ¬ e.1 = 1 := by omega
 cases r with
 | nil =>
  simp only [List.nil_append]
  unfold C6
  simp only [qy, cond_true, zH, qx, Option.bind_some, zp, zk, Bool.and_true, Bool.not_false, eqF f1]
  rfl
 | cons s r =>
  simp only [List.cons_append]
  unfold C6
  by_cases h1 : s.1 = 1
  ·simp only [qy, cond_true, cond_false, zH, qx, Option.bind_some, zp, zk, Bool.and_true, Bool.not_true, eqT h1, tk, if_pos h1]
   exact zox tag kd mb e he r (by simp only [List.length_cons] at hl; omega) (fun t ht => hk t (List.mem_cons_of_mem _ ht))
  ·simp only [qy, cond_true, zH, qx, Option.bind_some, zp, zk, Bool.and_true, Bool.not_false, eqF h1, tk, if_neg h1]
   rfl
theorem zoH (tag : List UInt8) (kd : Int) (e : Tok) (he : e.1 = 0) (r : List Tok) (hl : r.length <= 2000) (hk : ∀ t ∈ r, qG t) : B5 3000 tag kd (r ++ [e]) = zjh tag (tk 1 r fun _ r => tkM r fun m r => tkE r (cA tag kd m.2.1 0 [])) := by
 have f1 : ¬ e.1 = 1 := by omega
 have f4 : ¬ e.1 = 4 := by omega
 have f5 : ¬ e.1 = 5 := by omega
 have f6 : ¬ e.1 = 6 := by omega
 cases r with
 | nil =>
  simp only [List.nil_append]
  unfold B5
  simp only [qy, cond_true, zH, ze4, qx, Option.bind_some, zp, zk, Bool.and_true, Bool.not_false, eqF f1]
  rfl
 | cons s r =>
  simp only [List.cons_append]
  unfold B5
  by_cases h1 : s.1 = 1
  ·cases r with
   | nil =>
    simp only [qy, cond_true, cond_false, zH, ze4, qx, Option.bind_some, zp, zk, Bool.and_true, Bool.not_true, Bool.not_false, Bool.or_false, List.nil_append, eqT h1, eqF f4, eqF f5, eqF f6, tk, if_pos h1]
    rfl
   | cons m r =>
    have hkm := hk m (by simp)
    have hkr : ∀ t ∈ r, qG t := fun t ht => hk t (List.mem_cons_of_mem _ (List.mem_cons_of_mem _ ht))
    have hlr : r.length <= 2000 := by simp only [List.length_cons] at hl; omega
    have hC := fun mb => zoE tag kd mb e he r  hkr
    by_cases h4 : m.1 = 4
    ·have hne : (m.2.1 != ([] : List UInt8)) = true := by simpa using (hkm.2.2 h4).1
     have hb := znE 3000 m.2.1 (by have := hkm.2.1; omega) 3000 0 (by omega) (by have := hkm.2.1; omega)
     rw [show ((0 : Nat) : Int) = (0 : Int) from rfl, List.drop_zero] at hb
     have hS : zkX m = m.2.1.all zeP := by unfold zkX; rw [if_pos h4]
     simp only [qy, cond_true, cond_false, zH, ze4, qx, Option.bind_some, zp, zk, Bool.and_true, Bool.not_true, Bool.true_or, List.cons_append, eqT h1, eqT h4, neF h4, hne, hb, tk, if_pos h1, tkM, hS]
     cases m.2.1.all zeP with
     | true => simp only [if_true, zm, hC]
     | false =>
      simp only [Bool.false_eq_true, if_false, zm]
      rfl
    ·have hS : zkX m = (m.1 == 5 || m.1 == 6) := by unfold zkX; rw [if_neg h4]
     simp only [qy, cond_true, cond_false, zH, ze4, qx, Option.bind_some, zp, zk, Bool.and_true, Bool.not_true, Bool.false_or, List.cons_append, eqT h1, eqF h4, neT h4, tk, if_pos h1, tkM, hS]
     cases (m.1 == (5 : Int) || m.1 == (6 : Int)) with
     | true => simp only [cond_false, Bool.not_true, if_true, hC]
     | false =>
      simp only [cond_true, Bool.not_false, Bool.false_eq_true, if_false]
      rfl
  ·simp only [qy, cond_true, zH, ze4, qx, Option.bind_some, zp, zk, Bool.and_true, Bool.not_false, eqF h1, tk, if_neg h1]
   rfl
theorem zok (tag : List UInt8) (kd : Int) (e : Tok) (he : e.1 = 0) (r : List Tok) (hl : r.length <= 2000) (hk : ∀ t ∈ r, qG t) : B6 3000 tag kd (r ++ [e]) = zjh tag (tk 1 r fun _ r => tkM r fun m r => tk 1 r fun _ r => (ziD r).map fun p => cA tag kd m.2.1 p.1 p.2) := by
 have f1 : ¬ e.1 = 1 := by omega
 have f4 : ¬ e.1 = 4 := by omega
 have f5 : ¬ e.1 = 5 := by omega
 have f6 : ¬ e.1 = 6 := by omega
 cases r with
 | nil =>
  simp only [List.nil_append]
  unfold B6
  simp only [qy, cond_true, zH, ze4, qx, Option.bind_some, zp, zk, Bool.and_true, Bool.not_false, eqF f1]
  rfl
 | cons s r =>
  simp only [List.cons_append]
  unfold B6
  by_cases h1 : s.1 = 1
  ·cases r with
   | nil =>
    simp only [qy, cond_true, cond_false, zH, ze4, qx, Option.bind_some, zp, zk, Bool.and_true, Bool.not_true, Bool.not_false, Bool.or_false, List.nil_append, eqT h1, eqF f4, eqF f5, eqF f6, tk, if_pos h1]
    rfl
   | cons m r =>
    have hkm := hk m (by simp)
    have hkr : ∀ t ∈ r, qG t := fun t ht => hk t (List.mem_cons_of_mem _ (List.mem_cons_of_mem _ ht))
    have hlr : r.length <= 2000 := by simp only [List.length_cons] at hl; omega
    have hC := fun mb => zoG tag kd mb e he r hlr hkr
    by_cases h4 : m.1 = 4
    ·have hne : (m.2.1 != ([] : List UInt8)) = true := by simpa using (hkm.2.2 h4).1
     have hb := znz 3000 m.2.1 (by have := hkm.2.1; omega) 3000 0 (by omega) (by have := hkm.2.1; omega)
     rw [show ((0 : Nat) : Int) = (0 : Int) from rfl, List.drop_zero] at hb
     have hS : zkX m = m.2.1.all zeP := by unfold zkX; rw [if_pos h4]
     simp only [qy, cond_true, cond_false, zH, ze4, qx, Option.bind_some, zp, zk, Bool.and_true, Bool.not_true, Bool.true_or, List.cons_append, eqT h1, eqT h4, neF h4, hne, hb, tk, if_pos h1, tkM, hS]
     cases m.2.1.all zeP with
     | true => simp only [if_true, zm, hC]; rfl
     | false =>
      simp only [Bool.false_eq_true, if_false, zm]
      rfl
    ·have hS : zkX m = (m.1 == 5 || m.1 == 6) := by unfold zkX; rw [if_neg h4]
     simp only [qy, cond_true, cond_false, zH, ze4, qx, Option.bind_some, zp, zk, Bool.and_true, Bool.not_true, Bool.false_or, List.cons_append, eqT h1, eqF h4, neT h4, tk, if_pos h1, tkM, hS]
     cases (m.1 == (5 : Int) || m.1 == (6 : Int)) with
     | true => simp only [cond_false, Bool.not_true, if_true, hC]; rfl
     | false =>
      simp only [cond_true, Bool.not_false, Bool.false_eq_true, if_false]
      rfl
  ·simp only [qy, cond_true, zH, ze4, qx, Option.bind_some, zp, zk, Bool.and_true, Bool.not_false, eqF h1, tk, if_neg h1]
   rfl
end Go.Proofs.Model
