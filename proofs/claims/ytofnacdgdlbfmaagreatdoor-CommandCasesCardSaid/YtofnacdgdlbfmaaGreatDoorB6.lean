/- The machines and the plain laws, part 6. -/
import Derived.Test.YtofnacdgdlbfmaaGreatDoorB5
import Derived.KernelRfl
set_option linter.unusedVariables false
set_option maxRecDepth 100000
set_option linter.unusedSimpArgs false
namespace Go.Proofs.Model
open Go Go.Gx Go.Mx Go.Sx
@[reducible] def uS1 : U := (.pair (.int .i64) (.pair .str (.int .i64)))
@[reducible] def uS2 : U := (.pair .str (.pair (.int .i64) (.pair .str (.pair (.sl (.pair (.int .u32) (.int .u32))) (.pair (.int .i64) (.pair (.int .i64) (.pair .bool (.pair .u8 (.sl .u8)))))))))
def zof : List UInt8 := [0, 1, 2, 2, 3, 3, 3, 3, 4, 4, 4, 4, 4, 4, 4, 4, 5, 5, 5, 5, 5, 5, 5, 5, 5, 5, 5, 5, 5, 5, 5, 5, 6, 6, 6, 6, 6, 6, 6, 6, 6, 6, 6, 6, 6, 6, 6, 6, 6, 6, 6, 6, 6, 6, 6, 6, 6, 6, 6, 6, 6, 6, 6, 6, 7, 7, 7, 7, 7, 7, 7, 7, 7, 7, 7, 7, 7, 7, 7, 7, 7, 7, 7, 7, 7, 7, 7, 7, 7, 7, 7, 7, 7, 7, 7, 7, 7, 7, 7, 7, 7, 7, 7, 7, 7, 7, 7, 7, 7, 7, 7, 7, 7, 7, 7, 7, 7, 7, 7, 7, 7, 7, 7, 7, 7, 7, 7, 7, 8, 8, 8, 8, 8, 8, 8, 8, 8, 8, 8, 8, 8, 8, 8, 8, 8, 8, 8, 8, 8, 8, 8, 8, 8, 8, 8, 8, 8, 8, 8, 8, 8, 8, 8, 8, 8, 8, 8, 8, 8, 8, 8, 8, 8, 8, 8, 8, 8, 8, 8, 8, 8, 8, 8, 8, 8, 8, 8, 8, 8, 8, 8, 8, 8, 8, 8, 8, 8, 8, 8, 8, 8, 8, 8, 8, 8, 8, 8, 8, 8, 8, 8, 8, 8, 8, 8, 8, 8, 8, 8, 8, 8, 8, 8, 8, 8, 8, 8, 8, 8, 8, 8, 8, 8, 8, 8, 8, 8, 8, 8, 8, 8, 8, 8, 8, 8, 8, 8, 8, 8, 8, 8, 8, 8, 8, 8, 8]
def zbI : List UInt8 := [48, 48, 48, 49, 48, 50, 48, 51, 48, 52, 48, 53, 48, 54, 48, 55, 48, 56, 48, 57, 49, 48, 49, 49, 49, 50, 49, 51, 49, 52, 49, 53, 49, 54, 49, 55, 49, 56, 49, 57, 50, 48, 50, 49, 50, 50, 50, 51, 50, 52, 50, 53, 50, 54, 50, 55, 50, 56, 50, 57, 51, 48, 51, 49, 51, 50, 51, 51, 51, 52, 51, 53, 51, 54, 51, 55, 51, 56, 51, 57, 52, 48, 52, 49, 52, 50, 52, 51, 52, 52, 52, 53, 52, 54, 52, 55, 52, 56, 52, 57, 53, 48, 53, 49, 53, 50, 53, 51, 53, 52, 53, 53, 53, 54, 53, 55, 53, 56, 53, 57, 54, 48, 54, 49, 54, 50, 54, 51, 54, 52, 54, 53, 54, 54, 54, 55, 54, 56, 54, 57, 55, 48, 55, 49, 55, 50, 55, 51, 55, 52, 55, 53, 55, 54, 55, 55, 55, 56, 55, 57, 56, 48, 56, 49, 56, 50, 56, 51, 56, 52, 56, 53, 56, 54, 56, 55, 56, 56, 56, 57, 57, 48, 57, 49, 57, 50, 57, 51, 57, 52, 57, 53, 57, 54, 57, 55, 57, 56, 57, 57]
def qX (N : Nat) (p0 : (List UInt8)) (p1 : UInt8) : Option (Int × Unit) :=
 (some ((jm p1 p0 0), ()))
def za7 (N : Nat) (p0 : UInt8) : Option (Bool × Unit) :=
 (cond (decide (32 < p0)) (cond (decide (p0 <= 126)) (cond (decide (((UInt8.toNat (zo4 p0 6) : Nat) : Int) = 0)) (cond (decide (0 <= ((UInt8.toNat (p0 &&& 63) : Nat) : Int))) (some ((!((k9 .and .u64 (Int.fdiv 7851200217088 (2 ^ (min (Int.toNat ((UInt8.toNat (p0 &&& 63) : Nat) : Int)) (IntKind.bits .u64)))) 1) == 1)), ())) none) (cond (decide (((UInt8.toNat (zo4 p0 6) : Nat) : Int) = 1)) (cond (decide (0 <= ((UInt8.toNat (p0 &&& 63) : Nat) : Int))) (some ((!((k9 .and .u64 (Int.fdiv 576460753108729856 (2 ^ (min (Int.toNat ((UInt8.toNat (p0 &&& 63) : Nat) : Int)) (IntKind.bits .u64)))) 1) == 1)), ())) none) (cond (decide (((UInt8.toNat (zo4 p0 6) : Nat) : Int) = 2)) (cond (decide (0 <= ((UInt8.toNat (p0 &&& 63) : Nat) : Int))) (some ((!((k9 .and .u64 (Int.fdiv 0 (2 ^ (min (Int.toNat ((UInt8.toNat (p0 &&& 63) : Nat) : Int)) (IntKind.bits .u64)))) 1) == 1)), ())) none) (cond (decide (((UInt8.toNat (zo4 p0 6) : Nat) : Int) = 3)) (cond (decide (0 <= ((UInt8.toNat (p0 &&& 63) : Nat) : Int))) (some ((!((k9 .and .u64 (Int.fdiv 0 (2 ^ (min (Int.toNat ((UInt8.toNat (p0 &&& 63) : Nat) : Int)) (IntKind.bits .u64)))) 1) == 1)), ())) none) none)))) (some (false, ()))) (some (false, ())))
def zb6 (N : Nat) (p0 : UInt8) : Option (Bool × Unit) :=
 (cond (p0 == 93) (some (true, ())) (cond (p0 != 43) (Option.bind (za7 N p0) fun y1 => (some (y1.1, ()))) (some (false, ()))))
def zaR (N : Nat) {R : Type} (x8 : List UInt8) (x9 : Int) (x10 : Int) (rec_ : (List UInt8) -> (Int) -> (Int) -> Option R) (o0 : Unit -> Option R) (o1 : Unit -> Option R) : Option R :=
 (cond (decide (x10 < x9)) (cond (inb x10 (List.length x8)) (Option.bind (zb6 N (nth .u8 x8 (Int.toNat x10))) fun y13 => (cond (!y13.1) (o0 ()) (rec_ x8 x9 (IntKind.wrap .i64 (x10 + 1))))) none) (o1 ()))
def qY (N : Nat) : Nat -> (List UInt8) -> (Int) -> (Int) -> Option ((Unit) ⊕ (Unit))
 | 0, _, _, _ => none
 | m + 1, x8, x9, x10 => zaR N x8 x9 x10 (qY N m) (fun _ => some (Sum.inl ())) (fun _ => some (Sum.inr ()))
def zbe (N : Nat) (p0 : (List UInt8)) : Option ((List UInt8) × Int × Bool × Unit) :=
 (Option.bind (qX N p0 32) fun y1 => (cond (decide (y1.1 < 1)) (some ([], 0, false, ())) (cond ((jw 0 y1.1 (List.length p0)) && true) (cond ((slice p0 0 (Int.toNat y1.1)) != []) (Option.bind (qY N N (slice p0 0 (Int.toNat y1.1)) (((List.length (slice p0 0 (Int.toNat y1.1))) : Nat) : Int) 0) fun o18 => (zk o18 (fun a19 => (some ([], 0, false, ()))) (fun b20 => (cond ((jw 0 y1.1 (List.length p0)) && true) (some ((slice p0 0 (Int.toNat y1.1)), (IntKind.wrap .i64 (y1.1 + 1)), true, ())) none)))) (some ([], 0, false, ()))) none)))
def wZ (N : Nat) (p0 : UInt8) : Option (Bool × Unit) :=
 (cond (p0 != 0) (cond (decide (p0 < 128)) (cond (p0 != 13) (some ((p0 != 10), ())) (some (false, ()))) (some (false, ()))) (some (false, ())))
def wc (N : Nat) {R : Type} (x18 : List UInt8) (x19 : Int) (x20 : List UInt8) (rec_ : (List UInt8) -> (Int) -> (List UInt8) -> Option R) (o0 : (Bool) -> (List UInt8) -> (Int) -> (List UInt8) -> Option R) : Option R :=
 (cond (decide (x19 < 0)) (o0 false x18 x19 x20) (cond (decide ((((List.length x18) : Nat) : Int) <= x19)) (o0 false x18 x19 x20) (cond (inb (IntKind.wrap .i64 ((IntKind.wrap .i64 (x19 + 1)) - 1)) (List.length x18)) (cond ((nth .u8 x18 (Int.toNat (IntKind.wrap .i64 ((IntKind.wrap .i64 (x19 + 1)) - 1)))) == 34) (o0 true x18 (IntKind.wrap .i64 (x19 + 1)) x20) (cond ((nth .u8 x18 (Int.toNat (IntKind.wrap .i64 ((IntKind.wrap .i64 (x19 + 1)) - 1)))) == 92) (cond (decide ((IntKind.wrap .i64 (x19 + 1)) < 0)) (o0 false x18 (IntKind.wrap .i64 (x19 + 1)) x20) (cond (decide ((((List.length x18) : Nat) : Int) <= (IntKind.wrap .i64 (x19 + 1)))) (o0 false x18 (IntKind.wrap .i64 (x19 + 1)) x20) (cond (inb (IntKind.wrap .i64 ((IntKind.wrap .i64 ((IntKind.wrap .i64 (x19 + 1)) + 1)) - 1)) (List.length x18)) (cond ((nth .u8 x18 (Int.toNat (IntKind.wrap .i64 ((IntKind.wrap .i64 ((IntKind.wrap .i64 (x19 + 1)) + 1)) - 1)))) != 34) (cond ((nth .u8 x18 (Int.toNat (IntKind.wrap .i64 ((IntKind.wrap .i64 ((IntKind.wrap .i64 (x19 + 1)) + 1)) - 1)))) != 92) (o0 false x18 (IntKind.wrap .i64 ((IntKind.wrap .i64 (x19 + 1)) + 1)) x20) (Option.bind (wZ N (nth .u8 x18 (Int.toNat (IntKind.wrap .i64 ((IntKind.wrap .i64 ((IntKind.wrap .i64 (x19 + 1)) + 1)) - 1))))) fun y25 => (cond (!y25.1) (o0 false x18 (IntKind.wrap .i64 ((IntKind.wrap .i64 (x19 + 1)) + 1)) x20) (cond (Nat.blt ((List.length x20) + 1) jd) (rec_ x18 (IntKind.wrap .i64 ((IntKind.wrap .i64 (x19 + 1)) + 1)) (x20 ++ ([(nth .u8 x18 (Int.toNat (IntKind.wrap .i64 ((IntKind.wrap .i64 ((IntKind.wrap .i64 (x19 + 1)) + 1)) - 1))))] : List UInt8))) none)))) (Option.bind (wZ N (nth .u8 x18 (Int.toNat (IntKind.wrap .i64 ((IntKind.wrap .i64 ((IntKind.wrap .i64 (x19 + 1)) + 1)) - 1))))) fun y26 => (cond (!y26.1) (o0 false x18 (IntKind.wrap .i64 ((IntKind.wrap .i64 (x19 + 1)) + 1)) x20) (cond (Nat.blt ((List.length x20) + 1) jd) (rec_ x18 (IntKind.wrap .i64 ((IntKind.wrap .i64 (x19 + 1)) + 1)) (x20 ++ ([(nth .u8 x18 (Int.toNat (IntKind.wrap .i64 ((IntKind.wrap .i64 ((IntKind.wrap .i64 (x19 + 1)) + 1)) - 1))))] : List UInt8))) none)))) none))) (Option.bind (wZ N (nth .u8 x18 (Int.toNat (IntKind.wrap .i64 ((IntKind.wrap .i64 (x19 + 1)) - 1))))) fun y27 => (cond (!y27.1) (o0 false x18 (IntKind.wrap .i64 (x19 + 1)) x20) (cond (Nat.blt ((List.length x20) + 1) jd) (rec_ x18 (IntKind.wrap .i64 (x19 + 1)) (x20 ++ ([(nth .u8 x18 (Int.toNat (IntKind.wrap .i64 ((IntKind.wrap .i64 (x19 + 1)) - 1))))] : List UInt8))) none))))) none)))
def zO (N : Nat) : Nat -> (List UInt8) -> (Int) -> (List UInt8) -> Option ((Bool) × (List UInt8) × (Int) × (List UInt8))
 | 0, _, _, _ => none
 | m + 1, x18, x19, x20 => wc N x18 x19 x20 (zO N m) (fun v0 v1 v2 v3 => some (v0, v1, v2, v3))
def jC (N : Nat) (p0 : (List UInt8)) (p1 : Int) : Option ((List UInt8) × Int × Bool × Unit) :=
 (cond (decide (p1 < 0)) (some ([], 0, false, ())) (cond (decide ((((List.length p0) : Nat) : Int) <= p1)) (some ([], 0, false, ())) (cond (inb (IntKind.wrap .i64 ((IntKind.wrap .i64 (p1 + 1)) - 1)) (List.length p0)) (cond (!((nth .u8 p0 (Int.toNat (IntKind.wrap .i64 ((IntKind.wrap .i64 (p1 + 1)) - 1)))) == 34)) (some ([], 0, false, ())) (Option.bind (zO N N p0 (IntKind.wrap .i64 (p1 + 1)) []) fun o28 => (cond (!o28.1) (some ([], 0, false, ())) (some (o28.2.2.2, o28.2.2.1, true, ()))))) none)))
def wL (N : Nat) (p0 : Int) : Option ((List UInt8) × Unit) :=
 (cond (decide (p0 < 10)) (cond (jw p0 (IntKind.wrap .i64 (p0 + 1)) 36) (some ((slice [48, 49, 50, 51, 52, 53, 54, 55, 56, 57, 97, 98, 99, 100, 101, 102, 103, 104, 105, 106, 107, 108, 109, 110, 111, 112, 113, 114, 115, 116, 117, 118, 119, 120, 121, 122] (Int.toNat p0) (Int.toNat (IntKind.wrap .i64 (p0 + 1)))), ())) none) (cond (jw (IntKind.wrap .i64 (p0 * 2)) (IntKind.wrap .i64 ((IntKind.wrap .i64 (p0 * 2)) + 2)) 200) (some ((slice [48, 48, 48, 49, 48, 50, 48, 51, 48, 52, 48, 53, 48, 54, 48, 55, 48, 56, 48, 57, 49, 48, 49, 49, 49, 50, 49, 51, 49, 52, 49, 53, 49, 54, 49, 55, 49, 56, 49, 57, 50, 48, 50, 49, 50, 50, 50, 51, 50, 52, 50, 53, 50, 54, 50, 55, 50, 56, 50, 57, 51, 48, 51, 49, 51, 50, 51, 51, 51, 52, 51, 53, 51, 54, 51, 55, 51, 56, 51, 57, 52, 48, 52, 49, 52, 50, 52, 51, 52, 52, 52, 53, 52, 54, 52, 55, 52, 56, 52, 57, 53, 48, 53, 49, 53, 50, 53, 51, 53, 52, 53, 53, 53, 54, 53, 55, 53, 56, 53, 57, 54, 48, 54, 49, 54, 50, 54, 51, 54, 52, 54, 53, 54, 54, 54, 55, 54, 56, 54, 57, 55, 48, 55, 49, 55, 50, 55, 51, 55, 52, 55, 53, 55, 54, 55, 55, 55, 56, 55, 57, 56, 48, 56, 49, 56, 50, 56, 51, 56, 52, 56, 53, 56, 54, 56, 55, 56, 56, 56, 57, 57, 48, 57, 49, 57, 50, 57, 51, 57, 52, 57, 53, 57, 54, 57, 55, 57, 56, 57, 57] (Int.toNat (IntKind.wrap .i64 (p0 * 2))) (Int.toNat (IntKind.wrap .i64 ((IntKind.wrap .i64 (p0 * 2)) + 2)))), ())) none))
def jQ (N : Nat) (p0 : Int) : Option (Int × Unit) :=
 (cond (decide (4294967296 <= p0)) (cond (decide (65536 <= (Int.fdiv p0 (2 ^ (min (Int.toNat 32) (IntKind.bits .u64)))))) (cond (decide (256 <= (Int.fdiv (Int.fdiv p0 (2 ^ (min (Int.toNat 32) (IntKind.bits .u64)))) (2 ^ (min (Int.toNat 16) (IntKind.bits .u64)))))) (cond (inb ((UInt8.toNat (zaw (Int.fdiv (Int.fdiv (Int.fdiv p0 (2 ^ (min (Int.toNat 32) (IntKind.bits .u64)))) (2 ^ (min (Int.toNat 16) (IntKind.bits .u64)))) (2 ^ (min (Int.toNat 8) (IntKind.bits .u64))))) : Nat) : Int) 256) (some ((IntKind.wrap .i64 (56 + (IntKind.wrap .i64 ((UInt8.toNat (nth .u8 zof (Int.toNat ((UInt8.toNat (zaw (Int.fdiv (Int.fdiv (Int.fdiv p0 (2 ^ (min (Int.toNat 32) (IntKind.bits .u64)))) (2 ^ (min (Int.toNat 16) (IntKind.bits .u64)))) (2 ^ (min (Int.toNat 8) (IntKind.bits .u64))))) : Nat) : Int))) : Nat) : Int)))), ())) none) (cond (inb ((UInt8.toNat (zaw (Int.fdiv (Int.fdiv p0 (2 ^ (min (Int.toNat 32) (IntKind.bits .u64)))) (2 ^ (min (Int.toNat 16) (IntKind.bits .u64))))) : Nat) : Int) 256) (some ((IntKind.wrap .i64 (48 + (IntKind.wrap .i64 ((UInt8.toNat (nth .u8 zof (Int.toNat ((UInt8.toNat (zaw (Int.fdiv (Int.fdiv p0 (2 ^ (min (Int.toNat 32) (IntKind.bits .u64)))) (2 ^ (min (Int.toNat 16) (IntKind.bits .u64))))) : Nat) : Int))) : Nat) : Int)))), ())) none)) (cond (decide (256 <= (Int.fdiv p0 (2 ^ (min (Int.toNat 32) (IntKind.bits .u64)))))) (cond (inb ((UInt8.toNat (zaw (Int.fdiv (Int.fdiv p0 (2 ^ (min (Int.toNat 32) (IntKind.bits .u64)))) (2 ^ (min (Int.toNat 8) (IntKind.bits .u64))))) : Nat) : Int) 256) (some ((IntKind.wrap .i64 (40 + (IntKind.wrap .i64 ((UInt8.toNat (nth .u8 zof (Int.toNat ((UInt8.toNat (zaw (Int.fdiv (Int.fdiv p0 (2 ^ (min (Int.toNat 32) (IntKind.bits .u64)))) (2 ^ (min (Int.toNat 8) (IntKind.bits .u64))))) : Nat) : Int))) : Nat) : Int)))), ())) none) (cond (inb ((UInt8.toNat (zaw (Int.fdiv p0 (2 ^ (min (Int.toNat 32) (IntKind.bits .u64))))) : Nat) : Int) 256) (some ((IntKind.wrap .i64 (32 + (IntKind.wrap .i64 ((UInt8.toNat (nth .u8 zof (Int.toNat ((UInt8.toNat (zaw (Int.fdiv p0 (2 ^ (min (Int.toNat 32) (IntKind.bits .u64))))) : Nat) : Int))) : Nat) : Int)))), ())) none))) (cond (decide (65536 <= p0)) (cond (decide (256 <= (Int.fdiv p0 (2 ^ (min (Int.toNat 16) (IntKind.bits .u64)))))) (cond (inb ((UInt8.toNat (zaw (Int.fdiv (Int.fdiv p0 (2 ^ (min (Int.toNat 16) (IntKind.bits .u64)))) (2 ^ (min (Int.toNat 8) (IntKind.bits .u64))))) : Nat) : Int) 256) (some ((IntKind.wrap .i64 (24 + (IntKind.wrap .i64 ((UInt8.toNat (nth .u8 zof (Int.toNat ((UInt8.toNat (zaw (Int.fdiv (Int.fdiv p0 (2 ^ (min (Int.toNat 16) (IntKind.bits .u64)))) (2 ^ (min (Int.toNat 8) (IntKind.bits .u64))))) : Nat) : Int))) : Nat) : Int)))), ())) none) (cond (inb ((UInt8.toNat (zaw (Int.fdiv p0 (2 ^ (min (Int.toNat 16) (IntKind.bits .u64))))) : Nat) : Int) 256) (some ((IntKind.wrap .i64 (16 + (IntKind.wrap .i64 ((UInt8.toNat (nth .u8 zof (Int.toNat ((UInt8.toNat (zaw (Int.fdiv p0 (2 ^ (min (Int.toNat 16) (IntKind.bits .u64))))) : Nat) : Int))) : Nat) : Int)))), ())) none)) (cond (decide (256 <= p0)) (cond (inb ((UInt8.toNat (zaw (Int.fdiv p0 (2 ^ (min (Int.toNat 8) (IntKind.bits .u64))))) : Nat) : Int) 256) (some ((IntKind.wrap .i64 (8 + (IntKind.wrap .i64 ((UInt8.toNat (nth .u8 zof (Int.toNat ((UInt8.toNat (zaw (Int.fdiv p0 (2 ^ (min (Int.toNat 8) (IntKind.bits .u64))))) : Nat) : Int))) : Nat) : Int)))), ())) none) (cond (inb ((UInt8.toNat (zaw p0) : Nat) : Int) 256) (some ((IntKind.wrap .i64 (0 + (IntKind.wrap .i64 ((UInt8.toNat (nth .u8 zof (Int.toNat ((UInt8.toNat (zaw p0) : Nat) : Int))) : Nat) : Int)))), ())) none))))
def j7 (N : Nat) (p0 : Int) : Option (Int × Unit) :=
 (some ((Int.fdiv (IntKind.wrap .i64 (p0 * 78913)) (2 ^ (min (Int.toNat 18) (IntKind.bits .i64)))), ()))
def j5 (N : Nat) (p0 : Bool) : Option (Int × Unit) :=
 (cond p0 (some (1, ())) (some (0, ())))
def zv (N : Nat) (p0 : Int) : Option (Int × Unit) :=
 (Option.bind (jQ N p0) fun y1 => (Option.bind (j7 N y1.1) fun y2 => (cond ((inb y2.1 20) && (inb y2.1 20)) (Option.bind (j5 N (decide ((nth (.int .u64) ([1, 10, 100, 1000, 10000, 100000, 1000000, 10000000, 100000000, 1000000000, 10000000000, 100000000000, 1000000000000, 10000000000000, 100000000000000, 1000000000000000, 10000000000000000, 100000000000000000, 1000000000000000000, 10000000000000000000] : List Int) (Int.toNat y2.1)) <= p0))) fun y3 => (some ((IntKind.wrap .i64 (y2.1 + y3.1)), ()))) none)))
def zw (N : Nat) {R : Type} (x3 : Nat) (x4 : Nat) (x5 : Int) (x6 : Int) (x7 : List UInt8) (rec_ : (Nat) -> (Nat) -> (Int) -> (Int) -> (List UInt8) -> Option R) (o0 : (Nat) -> (Nat) -> (Int) -> (Int) -> (List UInt8) -> Option R) : Option R :=
 (cond (decide (8 <= x6)) (cond (inb (IntKind.wrap .u32 ((IntKind.wrap .u32 ((Int.tmod (Int.tmod (IntKind.wrap .u32 (Int.tmod x5 100000000)) 10000) 100) * 2)) + 1)) 200) (cond (inb (IntKind.wrap .u32 ((Int.tmod (Int.tmod (IntKind.wrap .u32 (Int.tmod x5 100000000)) 10000) 100) * 2)) 200) (cond (inb (IntKind.wrap .i64 (x6 - 1)) x4) (cond (inb (IntKind.wrap .i64 (x6 - 2)) x4) (cond (inb (IntKind.wrap .u32 ((IntKind.wrap .u32 ((IntKind.wrap .u32 (Int.tdiv (Int.tmod (IntKind.wrap .u32 (Int.tmod x5 100000000)) 10000) 100)) * 2)) + 1)) 200) (cond (inb (IntKind.wrap .u32 ((IntKind.wrap .u32 (Int.tdiv (Int.tmod (IntKind.wrap .u32 (Int.tmod x5 100000000)) 10000) 100)) * 2)) 200) (cond (inb (IntKind.wrap .i64 (x6 - 3)) x4) (cond (inb (IntKind.wrap .i64 (x6 - 4)) x4) (cond (inb (IntKind.wrap .u32 ((IntKind.wrap .u32 ((Int.tmod (IntKind.wrap .u32 (Int.tdiv (IntKind.wrap .u32 (Int.tmod x5 100000000)) 10000)) 100) * 2)) + 1)) 200) (cond (inb (IntKind.wrap .u32 ((Int.tmod (IntKind.wrap .u32 (Int.tdiv (IntKind.wrap .u32 (Int.tmod x5 100000000)) 10000)) 100) * 2)) 200) (cond (inb (IntKind.wrap .i64 (x6 - 5)) x4) (cond (inb (IntKind.wrap .i64 (x6 - 6)) x4) (cond (inb (IntKind.wrap .u32 ((IntKind.wrap .u32 ((IntKind.wrap .u32 (Int.tdiv (IntKind.wrap .u32 (Int.tdiv (IntKind.wrap .u32 (Int.tmod x5 100000000)) 10000)) 100)) * 2)) + 1)) 200) (cond (inb (IntKind.wrap .u32 ((IntKind.wrap .u32 (Int.tdiv (IntKind.wrap .u32 (Int.tdiv (IntKind.wrap .u32 (Int.tmod x5 100000000)) 10000)) 100)) * 2)) 200) (cond (inb (IntKind.wrap .i64 (x6 - 7)) x4) (cond (inb (IntKind.wrap .i64 (x6 - 8)) x4) (rec_ x3 x4 (IntKind.wrap .u64 (Int.tdiv x5 100000000)) (IntKind.wrap .i64 (x6 - 8)) (List.set (List.set (List.set (List.set (List.set (List.set (List.set (List.set x7 (x3 + (Int.toNat (IntKind.wrap .i64 (x6 - 1)))) (nth .u8 zbI (Int.toNat (IntKind.wrap .u32 ((IntKind.wrap .u32 ((Int.tmod (Int.tmod (IntKind.wrap .u32 (Int.tmod x5 100000000)) 10000) 100) * 2)) + 1))))) (x3 + (Int.toNat (IntKind.wrap .i64 (x6 - 2)))) (nth .u8 zbI (Int.toNat (IntKind.wrap .u32 ((Int.tmod (Int.tmod (IntKind.wrap .u32 (Int.tmod x5 100000000)) 10000) 100) * 2))))) (x3 + (Int.toNat (IntKind.wrap .i64 (x6 - 3)))) (nth .u8 zbI (Int.toNat (IntKind.wrap .u32 ((IntKind.wrap .u32 ((IntKind.wrap .u32 (Int.tdiv (Int.tmod (IntKind.wrap .u32 (Int.tmod x5 100000000)) 10000) 100)) * 2)) + 1))))) (x3 + (Int.toNat (IntKind.wrap .i64 (x6 - 4)))) (nth .u8 zbI (Int.toNat (IntKind.wrap .u32 ((IntKind.wrap .u32 (Int.tdiv (Int.tmod (IntKind.wrap .u32 (Int.tmod x5 100000000)) 10000) 100)) * 2))))) (x3 + (Int.toNat (IntKind.wrap .i64 (x6 - 5)))) (nth .u8 zbI (Int.toNat (IntKind.wrap .u32 ((IntKind.wrap .u32 ((Int.tmod (IntKind.wrap .u32 (Int.tdiv (IntKind.wrap .u32 (Int.tmod x5 100000000)) 10000)) 100) * 2)) + 1))))) (x3 + (Int.toNat (IntKind.wrap .i64 (x6 - 6)))) (nth .u8 zbI (Int.toNat (IntKind.wrap .u32 ((Int.tmod (IntKind.wrap .u32 (Int.tdiv (IntKind.wrap .u32 (Int.tmod x5 100000000)) 10000)) 100) * 2))))) (x3 + (Int.toNat (IntKind.wrap .i64 (x6 - 7)))) (nth .u8 zbI (Int.toNat (IntKind.wrap .u32 ((IntKind.wrap .u32 ((IntKind.wrap .u32 (Int.tdiv (IntKind.wrap .u32 (Int.tdiv (IntKind.wrap .u32 (Int.tmod x5 100000000)) 10000)) 100)) * 2)) + 1))))) (x3 + (Int.toNat (IntKind.wrap .i64 (x6 - 8)))) (nth .u8 zbI (Int.toNat (IntKind.wrap .u32 ((IntKind.wrap .u32 (Int.tdiv (IntKind.wrap .u32 (Int.tdiv (IntKind.wrap .u32 (Int.tmod x5 100000000)) 10000)) 100)) * 2)))))) none) none) none) none) none) none) none) none) none) none) none) none) none) none) none) none) (o0 x3 x4 x5 x6 x7))
def zd (N : Nat) : Nat -> (Nat) -> (Nat) -> (Int) -> (Int) -> (List UInt8) -> Option ((Nat) × (Nat) × (Int) × (Int) × (List UInt8))
 | 0, _, _, _, _, _ => none
 | m + 1, x3, x4, x5, x6, x7 => zw N x3 x4 x5 x6 x7 (zd N m) (fun v0 v1 v2 v3 v4 => some (v0, v1, v2, v3, v4))
def zr (N : Nat) (p0 : Int) : Option ((List UInt8) × Unit) :=
 (cond (decide ((IntKind.wrap .u64 p0) < 100)) (Option.bind (wL N (IntKind.wrap .i64 (IntKind.wrap .u64 p0))) fun y1 => (some (y1.1, ()))) (Option.bind (zv N (IntKind.wrap .u64 p0)) fun y2 => (cond (jw 0 y2.1 24) (Option.bind (zd N N 0 ((Int.toNat y2.1) - 0) (IntKind.wrap .u64 p0) ((((Int.toNat y2.1) - 0) : Nat) : Int) [0, 0, 0, 0, 0, 0, 0, 0, 0, 0, 0, 0, 0, 0, 0, 0, 0, 0, 0, 0, 0, 0, 0, 0]) fun o9 => (cond (decide (4 <= o9.2.2.2.1)) (cond (inb (IntKind.wrap .u32 ((IntKind.wrap .u32 ((Int.tmod (Int.tmod (IntKind.wrap .u32 o9.2.2.1) 10000) 100) * 2)) + 1)) 200) (cond (inb (IntKind.wrap .u32 ((Int.tmod (Int.tmod (IntKind.wrap .u32 o9.2.2.1) 10000) 100) * 2)) 200) (cond (inb (IntKind.wrap .i64 (o9.2.2.2.1 - 1)) o9.2.1) (cond (inb (IntKind.wrap .i64 (o9.2.2.2.1 - 2)) o9.2.1) (cond (inb (IntKind.wrap .u32 ((IntKind.wrap .u32 ((IntKind.wrap .u32 (Int.tdiv (Int.tmod (IntKind.wrap .u32 o9.2.2.1) 10000) 100)) * 2)) + 1)) 200) (cond (inb (IntKind.wrap .u32 ((IntKind.wrap .u32 (Int.tdiv (Int.tmod (IntKind.wrap .u32 o9.2.2.1) 10000) 100)) * 2)) 200) (cond (inb (IntKind.wrap .i64 (o9.2.2.2.1 - 3)) o9.2.1) (cond (inb (IntKind.wrap .i64 (o9.2.2.2.1 - 4)) o9.2.1) (cond (decide (2 <= (IntKind.wrap .i64 (o9.2.2.2.1 - 4)))) (cond (inb (IntKind.wrap .u32 ((IntKind.wrap .u32 ((Int.tmod (IntKind.wrap .u32 (Int.tdiv (IntKind.wrap .u32 o9.2.2.1) 10000)) 100) * 2)) + 1)) 200) (cond (inb (IntKind.wrap .u32 ((Int.tmod (IntKind.wrap .u32 (Int.tdiv (IntKind.wrap .u32 o9.2.2.1) 10000)) 100) * 2)) 200) (cond (inb (IntKind.wrap .i64 ((IntKind.wrap .i64 (o9.2.2.2.1 - 4)) - 1)) o9.2.1) (cond (inb (IntKind.wrap .i64 ((IntKind.wrap .i64 (o9.2.2.2.1 - 4)) - 2)) o9.2.1) (cond (decide (0 < (IntKind.wrap .i64 ((IntKind.wrap .i64 (o9.2.2.2.1 - 4)) - 2)))) (cond (inb 0 o9.2.1) (cond (jw 0 y2.1 24) (some ((slice (List.set (List.set (List.set (List.set (List.set (List.set (List.set o9.2.2.2.2 (o9.1 + (Int.toNat (IntKind.wrap .i64 (o9.2.2.2.1 - 1)))) (nth .u8 zbI (Int.toNat (IntKind.wrap .u32 ((IntKind.wrap .u32 ((Int.tmod (Int.tmod (IntKind.wrap .u32 o9.2.2.1) 10000) 100) * 2)) + 1))))) (o9.1 + (Int.toNat (IntKind.wrap .i64 (o9.2.2.2.1 - 2)))) (nth .u8 zbI (Int.toNat (IntKind.wrap .u32 ((Int.tmod (Int.tmod (IntKind.wrap .u32 o9.2.2.1) 10000) 100) * 2))))) (o9.1 + (Int.toNat (IntKind.wrap .i64 (o9.2.2.2.1 - 3)))) (nth .u8 zbI (Int.toNat (IntKind.wrap .u32 ((IntKind.wrap .u32 ((IntKind.wrap .u32 (Int.tdiv (Int.tmod (IntKind.wrap .u32 o9.2.2.1) 10000) 100)) * 2)) + 1))))) (o9.1 + (Int.toNat (IntKind.wrap .i64 (o9.2.2.2.1 - 4)))) (nth .u8 zbI (Int.toNat (IntKind.wrap .u32 ((IntKind.wrap .u32 (Int.tdiv (Int.tmod (IntKind.wrap .u32 o9.2.2.1) 10000) 100)) * 2))))) (o9.1 + (Int.toNat (IntKind.wrap .i64 ((IntKind.wrap .i64 (o9.2.2.2.1 - 4)) - 1)))) (nth .u8 zbI (Int.toNat (IntKind.wrap .u32 ((IntKind.wrap .u32 ((Int.tmod (IntKind.wrap .u32 (Int.tdiv (IntKind.wrap .u32 o9.2.2.1) 10000)) 100) * 2)) + 1))))) (o9.1 + (Int.toNat (IntKind.wrap .i64 ((IntKind.wrap .i64 (o9.2.2.2.1 - 4)) - 2)))) (nth .u8 zbI (Int.toNat (IntKind.wrap .u32 ((Int.tmod (IntKind.wrap .u32 (Int.tdiv (IntKind.wrap .u32 o9.2.2.1) 10000)) 100) * 2))))) (o9.1 + 0) (zaw (IntKind.wrap .u32 (48 + (IntKind.wrap .u32 (Int.tdiv (IntKind.wrap .u32 (Int.tdiv (IntKind.wrap .u32 o9.2.2.1) 10000)) 100)))))) 0 (0 + ((Int.toNat y2.1) - 0))), ())) none) none) (cond (jw 0 y2.1 24) (some ((slice (List.set (List.set (List.set (List.set (List.set (List.set o9.2.2.2.2 (o9.1 + (Int.toNat (IntKind.wrap .i64 (o9.2.2.2.1 - 1)))) (nth .u8 zbI (Int.toNat (IntKind.wrap .u32 ((IntKind.wrap .u32 ((Int.tmod (Int.tmod (IntKind.wrap .u32 o9.2.2.1) 10000) 100) * 2)) + 1))))) (o9.1 + (Int.toNat (IntKind.wrap .i64 (o9.2.2.2.1 - 2)))) (nth .u8 zbI (Int.toNat (IntKind.wrap .u32 ((Int.tmod (Int.tmod (IntKind.wrap .u32 o9.2.2.1) 10000) 100) * 2))))) (o9.1 + (Int.toNat (IntKind.wrap .i64 (o9.2.2.2.1 - 3)))) (nth .u8 zbI (Int.toNat (IntKind.wrap .u32 ((IntKind.wrap .u32 ((IntKind.wrap .u32 (Int.tdiv (Int.tmod (IntKind.wrap .u32 o9.2.2.1) 10000) 100)) * 2)) + 1))))) (o9.1 + (Int.toNat (IntKind.wrap .i64 (o9.2.2.2.1 - 4)))) (nth .u8 zbI (Int.toNat (IntKind.wrap .u32 ((IntKind.wrap .u32 (Int.tdiv (Int.tmod (IntKind.wrap .u32 o9.2.2.1) 10000) 100)) * 2))))) (o9.1 + (Int.toNat (IntKind.wrap .i64 ((IntKind.wrap .i64 (o9.2.2.2.1 - 4)) - 1)))) (nth .u8 zbI (Int.toNat (IntKind.wrap .u32 ((IntKind.wrap .u32 ((Int.tmod (IntKind.wrap .u32 (Int.tdiv (IntKind.wrap .u32 o9.2.2.1) 10000)) 100) * 2)) + 1))))) (o9.1 + (Int.toNat (IntKind.wrap .i64 ((IntKind.wrap .i64 (o9.2.2.2.1 - 4)) - 2)))) (nth .u8 zbI (Int.toNat (IntKind.wrap .u32 ((Int.tmod (IntKind.wrap .u32 (Int.tdiv (IntKind.wrap .u32 o9.2.2.1) 10000)) 100) * 2))))) 0 (0 + ((Int.toNat y2.1) - 0))), ())) none)) none) none) none) none) (cond (decide (0 < (IntKind.wrap .i64 (o9.2.2.2.1 - 4)))) (cond (inb 0 o9.2.1) (cond (jw 0 y2.1 24) (some ((slice (List.set (List.set (List.set (List.set (List.set o9.2.2.2.2 (o9.1 + (Int.toNat (IntKind.wrap .i64 (o9.2.2.2.1 - 1)))) (nth .u8 zbI (Int.toNat (IntKind.wrap .u32 ((IntKind.wrap .u32 ((Int.tmod (Int.tmod (IntKind.wrap .u32 o9.2.2.1) 10000) 100) * 2)) + 1))))) (o9.1 + (Int.toNat (IntKind.wrap .i64 (o9.2.2.2.1 - 2)))) (nth .u8 zbI (Int.toNat (IntKind.wrap .u32 ((Int.tmod (Int.tmod (IntKind.wrap .u32 o9.2.2.1) 10000) 100) * 2))))) (o9.1 + (Int.toNat (IntKind.wrap .i64 (o9.2.2.2.1 - 3)))) (nth .u8 zbI (Int.toNat (IntKind.wrap .u32 ((IntKind.wrap .u32 ((IntKind.wrap .u32 (Int.tdiv (Int.tmod (IntKind.wrap .u32 o9.2.2.1) 10000) 100)) * 2)) + 1))))) (o9.1 + (Int.toNat (IntKind.wrap .i64 (o9.2.2.2.1 - 4)))) (nth .u8 zbI (Int.toNat (IntKind.wrap .u32 ((IntKind.wrap .u32 (Int.tdiv (Int.tmod (IntKind.wrap .u32 o9.2.2.1) 10000) 100)) * 2))))) (o9.1 + 0) (zaw (IntKind.wrap .u32 (48 + (IntKind.wrap .u32 (Int.tdiv (IntKind.wrap .u32 o9.2.2.1) 10000)))))) 0 (0 + ((Int.toNat y2.1) - 0))), ())) none) none) (cond (jw 0 y2.1 24) (some ((slice (List.set (List.set (List.set (List.set o9.2.2.2.2 (o9.1 + (Int.toNat (IntKind.wrap .i64 (o9.2.2.2.1 - 1)))) (nth .u8 zbI (Int.toNat (IntKind.wrap .u32 ((IntKind.wrap .u32 ((Int.tmod (Int.tmod (IntKind.wrap .u32 o9.2.2.1) 10000) 100) * 2)) + 1))))) (o9.1 + (Int.toNat (IntKind.wrap .i64 (o9.2.2.2.1 - 2)))) (nth .u8 zbI (Int.toNat (IntKind.wrap .u32 ((Int.tmod (Int.tmod (IntKind.wrap .u32 o9.2.2.1) 10000) 100) * 2))))) (o9.1 + (Int.toNat (IntKind.wrap .i64 (o9.2.2.2.1 - 3)))) (nth .u8 zbI (Int.toNat (IntKind.wrap .u32 ((IntKind.wrap .u32 ((IntKind.wrap .u32 (Int.tdiv (Int.tmod (IntKind.wrap .u32 o9.2.2.1) 10000) 100)) * 2)) + 1))))) (o9.1 + (Int.toNat (IntKind.wrap .i64 (o9.2.2.2.1 - 4)))) (nth .u8 zbI (Int.toNat (IntKind.wrap .u32 ((IntKind.wrap .u32 (Int.tdiv (Int.tmod (IntKind.wrap .u32 o9.2.2.1) 10000) 100)) * 2))))) 0 (0 + ((Int.toNat y2.1) - 0))), ())) none))) none) none) none) none) none) none) none) none) (cond (decide (2 <= o9.2.2.2.1)) (cond (inb (IntKind.wrap .u32 ((IntKind.wrap .u32 ((Int.tmod (IntKind.wrap .u32 o9.2.2.1) 100) * 2)) + 1)) 200) (cond (inb (IntKind.wrap .u32 ((Int.tmod (IntKind.wrap .u32 o9.2.2.1) 100) * 2)) 200) (cond (inb (IntKind.wrap .i64 (o9.2.2.2.1 - 1)) o9.2.1) (cond (inb (IntKind.wrap .i64 (o9.2.2.2.1 - 2)) o9.2.1) (cond (decide (0 < (IntKind.wrap .i64 (o9.2.2.2.1 - 2)))) (cond (inb 0 o9.2.1) (cond (jw 0 y2.1 24) (some ((slice (List.set (List.set (List.set o9.2.2.2.2 (o9.1 + (Int.toNat (IntKind.wrap .i64 (o9.2.2.2.1 - 1)))) (nth .u8 zbI (Int.toNat (IntKind.wrap .u32 ((IntKind.wrap .u32 ((Int.tmod (IntKind.wrap .u32 o9.2.2.1) 100) * 2)) + 1))))) (o9.1 + (Int.toNat (IntKind.wrap .i64 (o9.2.2.2.1 - 2)))) (nth .u8 zbI (Int.toNat (IntKind.wrap .u32 ((Int.tmod (IntKind.wrap .u32 o9.2.2.1) 100) * 2))))) (o9.1 + 0) (zaw (IntKind.wrap .u32 (48 + (IntKind.wrap .u32 (Int.tdiv (IntKind.wrap .u32 o9.2.2.1) 100)))))) 0 (0 + ((Int.toNat y2.1) - 0))), ())) none) none) (cond (jw 0 y2.1 24) (some ((slice (List.set (List.set o9.2.2.2.2 (o9.1 + (Int.toNat (IntKind.wrap .i64 (o9.2.2.2.1 - 1)))) (nth .u8 zbI (Int.toNat (IntKind.wrap .u32 ((IntKind.wrap .u32 ((Int.tmod (IntKind.wrap .u32 o9.2.2.1) 100) * 2)) + 1))))) (o9.1 + (Int.toNat (IntKind.wrap .i64 (o9.2.2.2.1 - 2)))) (nth .u8 zbI (Int.toNat (IntKind.wrap .u32 ((Int.tmod (IntKind.wrap .u32 o9.2.2.1) 100) * 2))))) 0 (0 + ((Int.toNat y2.1) - 0))), ())) none)) none) none) none) none) (cond (decide (0 < o9.2.2.2.1)) (cond (inb 0 o9.2.1) (cond (jw 0 y2.1 24) (some ((slice (List.set o9.2.2.2.2 (o9.1 + 0) (zaw (IntKind.wrap .u32 (48 + (IntKind.wrap .u32 o9.2.2.1))))) 0 (0 + ((Int.toNat y2.1) - 0))), ())) none) none) (cond (jw 0 y2.1 24) (some ((slice o9.2.2.2.2 0 (0 + ((Int.toNat y2.1) - 0))), ())) none))))) none)))
def wE (N : Nat) (p0 : (List UInt8)) : Option (Int × Bool × Unit) :=
 (cond (Nat.ble (List.length p0) zlq) (zmN (Go.Lib.parseUintB 32 p0) (fun u1 => (Option.bind (zr N (IntKind.wrap .u32 u1)) fun y2 => (cond (y2.1 != p0) (some (0, false, ())) (some ((IntKind.wrap .u32 u1), true, ()))))) (some (0, false, ())) (some (0, false, ()))) none)
def qe (N : Nat) (p0 : (List UInt8)) : Option ((List UInt8) × Unit) :=
 (cond (Nat.blt (0 + (List.length p0)) jd) (some (([] ++ p0), ())) none)
def jo (N : Nat) (p0 : (List UInt8)) (p1 : Int) : Option ((List UInt8) × Int × Bool × Unit) :=
 (cond (decide (p1 < 0)) (some ([], 0, false, ())) (cond (decide ((((List.length p0) : Nat) : Int) <= p1)) (some ([], 0, false, ())) (cond (inb (IntKind.wrap .i64 ((IntKind.wrap .i64 (p1 + 1)) - 1)) (List.length p0)) (cond (!((nth .u8 p0 (Int.toNat (IntKind.wrap .i64 ((IntKind.wrap .i64 (p1 + 1)) - 1)))) == 123)) (some ([], 0, false, ())) (cond (zY (IntKind.wrap .i64 (p1 + 1)) p0 && true) (Option.bind (qX N (ze p0 (Int.toNat (IntKind.wrap .i64 (p1 + 1)))) 125) fun y1 => (cond (decide (y1.1 < 0)) (some ([], 0, false, ())) (cond ((jw (IntKind.wrap .i64 (p1 + 1)) (IntKind.wrap .i64 ((IntKind.wrap .i64 (p1 + 1)) + y1.1)) (List.length p0)) && true) (Option.bind (wE N (slice p0 (Int.toNat (IntKind.wrap .i64 (p1 + 1))) (Int.toNat (IntKind.wrap .i64 ((IntKind.wrap .i64 (p1 + 1)) + y1.1))))) fun y2 => (cond (!y2.2.1) (some ([], 0, false, ())) (cond (decide (65536 < y2.1)) (some ([], 0, false, ())) (cond (decide ((IntKind.wrap .i64 ((IntKind.wrap .i64 (p1 + 1)) + (IntKind.wrap .i64 (y1.1 + 1)))) < 0)) (some ([], 0, false, ())) (cond (decide ((((List.length p0) : Nat) : Int) <= (IntKind.wrap .i64 ((IntKind.wrap .i64 (p1 + 1)) + (IntKind.wrap .i64 (y1.1 + 1)))))) (some ([], 0, false, ())) (cond (inb (IntKind.wrap .i64 ((IntKind.wrap .i64 ((IntKind.wrap .i64 ((IntKind.wrap .i64 (p1 + 1)) + (IntKind.wrap .i64 (y1.1 + 1)))) + 1)) - 1)) (List.length p0)) (cond (!((nth .u8 p0 (Int.toNat (IntKind.wrap .i64 ((IntKind.wrap .i64 ((IntKind.wrap .i64 ((IntKind.wrap .i64 (p1 + 1)) + (IntKind.wrap .i64 (y1.1 + 1)))) + 1)) - 1)))) == 13)) (some ([], 0, false, ())) (cond (decide ((IntKind.wrap .i64 ((IntKind.wrap .i64 ((IntKind.wrap .i64 (p1 + 1)) + (IntKind.wrap .i64 (y1.1 + 1)))) + 1)) < 0)) (some ([], 0, false, ())) (cond (decide ((((List.length p0) : Nat) : Int) <= (IntKind.wrap .i64 ((IntKind.wrap .i64 ((IntKind.wrap .i64 (p1 + 1)) + (IntKind.wrap .i64 (y1.1 + 1)))) + 1)))) (some ([], 0, false, ())) (cond (inb (IntKind.wrap .i64 ((IntKind.wrap .i64 ((IntKind.wrap .i64 ((IntKind.wrap .i64 ((IntKind.wrap .i64 (p1 + 1)) + (IntKind.wrap .i64 (y1.1 + 1)))) + 1)) + 1)) - 1)) (List.length p0)) (cond (!((nth .u8 p0 (Int.toNat (IntKind.wrap .i64 ((IntKind.wrap .i64 ((IntKind.wrap .i64 ((IntKind.wrap .i64 ((IntKind.wrap .i64 (p1 + 1)) + (IntKind.wrap .i64 (y1.1 + 1)))) + 1)) + 1)) - 1)))) == 10)) (some ([], 0, false, ())) (cond (decide ((IntKind.wrap .i64 ((((List.length p0) : Nat) : Int) - (IntKind.wrap .i64 ((IntKind.wrap .i64 ((IntKind.wrap .i64 ((IntKind.wrap .i64 (p1 + 1)) + (IntKind.wrap .i64 (y1.1 + 1)))) + 1)) + 1)))) < (IntKind.wrap .i64 y2.1))) (some ([], 0, false, ())) (cond ((jw (IntKind.wrap .i64 ((IntKind.wrap .i64 ((IntKind.wrap .i64 ((IntKind.wrap .i64 (p1 + 1)) + (IntKind.wrap .i64 (y1.1 + 1)))) + 1)) + 1)) (IntKind.wrap .i64 ((IntKind.wrap .i64 ((IntKind.wrap .i64 ((IntKind.wrap .i64 ((IntKind.wrap .i64 (p1 + 1)) + (IntKind.wrap .i64 (y1.1 + 1)))) + 1)) + 1)) + (IntKind.wrap .i64 y2.1))) (List.length p0)) && true) (Option.bind (qe N (slice p0 (Int.toNat (IntKind.wrap .i64 ((IntKind.wrap .i64 ((IntKind.wrap .i64 ((IntKind.wrap .i64 (p1 + 1)) + (IntKind.wrap .i64 (y1.1 + 1)))) + 1)) + 1))) (Int.toNat (IntKind.wrap .i64 ((IntKind.wrap .i64 ((IntKind.wrap .i64 ((IntKind.wrap .i64 ((IntKind.wrap .i64 (p1 + 1)) + (IntKind.wrap .i64 (y1.1 + 1)))) + 1)) + 1)) + (IntKind.wrap .i64 y2.1)))))) fun y3 => (some (y3.1, (IntKind.wrap .i64 ((IntKind.wrap .i64 ((IntKind.wrap .i64 ((IntKind.wrap .i64 ((IntKind.wrap .i64 (p1 + 1)) + (IntKind.wrap .i64 (y1.1 + 1)))) + 1)) + 1)) + (IntKind.wrap .i64 y2.1))), true, ()))) none))) none)))) none)))))) none))) none)) none)))
def qj (N : Nat) (p0 : (List UInt8)) (p1 : UInt8) : Option (Int × Unit) :=
 (some ((jm p1 p0 0), ()))
def xw (N : Nat) (p0 : (List UInt8)) (p1 : UInt8) : Option (Int × Unit) :=
 (Option.bind (qj N p0 p1) fun y1 => (some (y1.1, ())))
def kg (N : Nat) (p0 : UInt8) : Option (Bool × Unit) :=
 (cond (decide (32 < p0)) (cond (decide (p0 <= 126)) (Option.bind (xw N [40, 41, 34, 123] p0) fun y1 => (some ((decide (y1.1 < 0)), ()))) (some (false, ()))) (some (false, ())))
def kR (N : Nat) {R : Type} (x81 : Int) (x82 : List UInt8) (x83 : Int) (rec_ : (Int) -> (List UInt8) -> (Int) -> Option R) (o0 : (Int) -> (List UInt8) -> (Int) -> Option R) : Option R :=
 (cond (decide (x83 < (((List.length x82) : Nat) : Int))) (cond (inb x83 (List.length x82)) (Option.bind (kg N (nth .u8 x82 (Int.toNat x83))) fun y86 => (cond y86.1 (rec_ x81 x82 (IntKind.wrap .i64 (x83 + 1))) (o0 x81 x82 x83))) none) (o0 x81 x82 x83))
def qf (N : Nat) : Nat -> (Int) -> (List UInt8) -> (Int) -> Option ((Int) × (List UInt8) × (Int))
 | 0, _, _, _ => none
 | m + 1, x81, x82, x83 => kR N x81 x82 x83 (qf N m) (fun v0 v1 v2 => some (v0, v1, v2))
def kW (N : Nat) {R : Type} (x62 : List UInt8) (x63 : Int) (x64 : List (El uS1)) (rec_ : (List UInt8) -> (Int) -> (List (El uS1)) -> Option R) (o0 : (List UInt8) -> (Int) -> (List (El uS1)) -> Option R) (o1 : (Int) -> (List UInt8) -> (Int) -> (List (El uS1)) -> Option R) : Option R :=
 (cond (x63 == (((List.length x62) : Nat) : Int)) (cond (Nat.blt ((List.length x64) + 1) jd) (o0 x62 x63 (x64 ++ ([(0, ([], x63))] : List (El uS1)))) none) (cond (inb x63 (List.length x62)) (cond ((nth .u8 x62 (Int.toNat x63)) == 32) (cond (Nat.blt ((List.length x64) + 1) jd) (rec_ x62 (IntKind.wrap .i64 (x63 + 1)) (x64 ++ ([(1, ([], x63))] : List (El uS1)))) none) (cond ((nth .u8 x62 (Int.toNat x63)) == 40) (cond (Nat.blt ((List.length x64) + 1) jd) (rec_ x62 (IntKind.wrap .i64 (x63 + 1)) (x64 ++ ([(2, ([], x63))] : List (El uS1)))) none) (cond ((nth .u8 x62 (Int.toNat x63)) == 41) (cond (Nat.blt ((List.length x64) + 1) jd) (rec_ x62 (IntKind.wrap .i64 (x63 + 1)) (x64 ++ ([(3, ([], x63))] : List (El uS1)))) none) (cond ((nth .u8 x62 (Int.toNat x63)) == 34) (Option.bind (jC N x62 x63) fun y77 => (cond y77.2.2.1 (cond (!y77.2.2.1) (o1 x63 x62 y77.2.1 x64) (cond (Nat.blt ((List.length x64) + 1) jd) (rec_ x62 y77.2.1 (x64 ++ ([(5, (y77.1, x63))] : List (El uS1)))) none)) (cond (!y77.2.2.1) (o1 x63 x62 x63 x64) (cond (Nat.blt ((List.length x64) + 1) jd) (rec_ x62 x63 (x64 ++ ([(5, (y77.1, x63))] : List (El uS1)))) none)))) (cond ((nth .u8 x62 (Int.toNat x63)) == 123) (Option.bind (jo N x62 x63) fun y78 => (cond y78.2.2.1 (cond (!y78.2.2.1) (o1 x63 x62 y78.2.1 x64) (cond (Nat.blt ((List.length x64) + 1) jd) (rec_ x62 y78.2.1 (x64 ++ ([(6, (y78.1, x63))] : List (El uS1)))) none)) (cond (!y78.2.2.1) (o1 x63 x62 x63 x64) (cond (Nat.blt ((List.length x64) + 1) jd) (rec_ x62 x63 (x64 ++ ([(6, (y78.1, x63))] : List (El uS1)))) none)))) (Option.bind (qf N N x63 x62 x63) fun o87 => (cond ((jw o87.1 o87.2.2 (List.length o87.2.1)) && true) (cond (!(decide (o87.1 < o87.2.2))) (o1 x63 o87.2.1 o87.2.2 x64) (cond (Nat.blt ((List.length x64) + 1) jd) (rec_ o87.2.1 o87.2.2 (x64 ++ ([(4, ((slice o87.2.1 (Int.toNat o87.1) (Int.toNat o87.2.2)), x63))] : List (El uS1)))) none)) none))))))) none))
def zH (N : Nat) : Nat -> (List UInt8) -> (Int) -> (List (El uS1)) -> Option (((List UInt8) × (Int) × (List (El uS1))) ⊕ ((Int) × (List UInt8) × (Int) × (List (El uS1))))
 | 0, _, _, _ => none
 | m + 1, x62, x63, x64 => kW N x62 x63 x64 (zH N m) (fun v0 v1 v2 => some (Sum.inl (v0, v1, v2))) (fun v0 v1 v2 v3 => some (Sum.inr (v0, v1, v2, v3)))
def kk (N : Nat) (p0 : (List UInt8)) : Option ((List (El uS1)) × Int × Unit) :=
 (Option.bind (zH N N p0 0 []) fun o92 => (zk o92 (fun a93 => (some (a93.2.2, (-1), ()))) (fun b94 => (some ([], b94.1, ())))))
def xA (N : Nat) {R : Type} (x4 : List Int) (x5 : Int) (x6 : Int) (x7 : Int) (rec_ : (List Int) -> (Int) -> (Int) -> (Int) -> Option R) (o0 : (Int) -> Option R) (o1 : Unit -> Option R) : Option R :=
 (cond (decide (x7 < x6)) (cond (inb x7 (List.length x4)) (cond (x5 == (nth (.int .i64) x4 (Int.toNat x7))) (o0 x7) (rec_ x4 x5 x6 (IntKind.wrap .i64 (x7 + 1)))) none) (o1 ()))
def zE (N : Nat) : Nat -> (List Int) -> (Int) -> (Int) -> (Int) -> Option (((Int)) ⊕ (Unit))
 | 0, _, _, _, _ => none
 | m + 1, x4, x5, x6, x7 => xA N x4 x5 x6 x7 (zE N m) (fun v0 => some (Sum.inl v0)) (fun _ => some (Sum.inr ()))
def qx (N : Nat) (p0 : (List Int)) (p1 : Int) : Option (Int × Unit) :=
 (Option.bind (zE N N p0 p1 (((List.length p0) : Nat) : Int) 0) fun o13 => (zk o13 (fun a14 => (some (a14, ()))) (fun b15 => (some ((-1), ())))))
def za (N : Nat) (p0 : (List Int)) (p1 : Int) : Option (Bool × Unit) :=
 (Option.bind (qx N p0 p1) fun y1 => (some ((decide (0 <= y1.1)), ())))
def zaO (N : Nat) {R : Type} (x5 : Int) (x6 : Int) (x7 : List UInt8) (rec_ : (Int) -> (Int) -> (List UInt8) -> Option R) (o0 : (List UInt8) -> Option R) : Option R :=
 (cond (decide (x6 < x5)) (cond (inb x6 (List.length x7)) (cond (decide (97 <= (nth .u8 x7 (Int.toNat x6)))) (cond (decide ((nth .u8 x7 (Int.toNat x6)) <= 122)) (cond (inb x6 (List.length x7)) (rec_ x5 (IntKind.wrap .i64 (x6 + 1)) (List.set x7 (Int.toNat x6) ((nth .u8 x7 (Int.toNat x6)) &&& ~~~32))) none) (cond (inb x6 (List.length x7)) (rec_ x5 (IntKind.wrap .i64 (x6 + 1)) (List.set x7 (Int.toNat x6) (nth .u8 x7 (Int.toNat x6)))) none)) (cond (inb x6 (List.length x7)) (rec_ x5 (IntKind.wrap .i64 (x6 + 1)) (List.set x7 (Int.toNat x6) (nth .u8 x7 (Int.toNat x6)))) none)) none) (o0 x7))
def qW (N : Nat) : Nat -> (Int) -> (Int) -> (List UInt8) -> Option ((List UInt8))
 | 0, _, _, _ => none
 | m + 1, x5, x6, x7 => zaO N x5 x6 x7 (qW N m) (fun v0 => some v0)
def jf (N : Nat) (p0 : (List UInt8)) : Option ((List UInt8) × Unit) :=
 (cond (Nat.blt (List.length p0) jd) (Option.bind (qW N N (((List.length p0) : Nat) : Int) 0 p0) fun o9 => (some (o9, ()))) none)
def wI (N : Nat) {R : Type} (x4 : List (List UInt8)) (x5 : List UInt8) (x6 : Int) (x7 : Int) (rec_ : (List (List UInt8)) -> (List UInt8) -> (Int) -> (Int) -> Option R) (o0 : (Int) -> Option R) (o1 : Unit -> Option R) : Option R :=
 (cond (decide (x7 < x6)) (cond (inb x7 (List.length x4)) (cond (x5 == (nth .str x4 (Int.toNat x7))) (o0 x7) (rec_ x4 x5 x6 (IntKind.wrap .i64 (x7 + 1)))) none) (o1 ()))
def zj (N : Nat) : Nat -> (List (List UInt8)) -> (List UInt8) -> (Int) -> (Int) -> Option (((Int)) ⊕ (Unit))
 | 0, _, _, _, _ => none
 | m + 1, x4, x5, x6, x7 => wI N x4 x5 x6 x7 (zj N m) (fun v0 => some (Sum.inl v0)) (fun _ => some (Sum.inr ()))
def zp (N : Nat) (p0 : (List (List UInt8))) (p1 : (List UInt8)) : Option (Int × Unit) :=
 (Option.bind (zj N N p0 p1 (((List.length p0) : Nat) : Int) 0) fun o13 => (zk o13 (fun a14 => (some (a14, ()))) (fun b15 => (some ((-1), ())))))
def jW (N : Nat) (p0 : (List UInt8)) : Option (Int × Bool × Unit) :=
 (Option.bind (jf N p0) fun y1 => (Option.bind (zp N ([[78, 79, 79, 80], [76, 79, 71, 79, 85, 84], [67, 76, 79, 83, 69], [69, 88, 80, 85, 78, 71, 69], [83, 69, 76, 69, 67, 84], [65, 80, 80, 69, 78, 68], [70, 69, 84, 67, 72], [83, 84, 79, 82, 69]] : List (List UInt8)) y1.1) fun y2 => (some ((IntKind.wrap .i64 (y2.1 + 1)), (decide (0 <= y2.1)), ()))))
def zbd (N : Nat) (p0 : UInt8) : Option (Bool × Unit) :=
 (Option.bind (za7 N p0) fun y1 => (some (y1.1, ())))
def zK (N : Nat) (p0 : UInt8) : Option (Bool × Unit) :=
 (Option.bind (zbd N p0) fun y1 => (cond y1.1 (some (true, ())) (some ((p0 == 93), ()))))
def jj (N : Nat) (p0 : (List UInt8)) (p1 : (List UInt8)) : Option (Bool × Unit) :=
 (cond (decide ((((List.length p1) : Nat) : Int) <= (((List.length p0) : Nat) : Int))) (cond (jw 0 (((List.length p1) : Nat) : Int) (List.length p0)) (some (((slice p0 0 (Int.toNat (((List.length p1) : Nat) : Int))) == p1), ())) none) (some (false, ())))
def jq (N : Nat) (p0 : (List UInt8)) (p1 : (List UInt8)) : Option ((List UInt8) × Bool × Unit) :=
 (Option.bind (jj N p0 p1) fun y1 => (cond (!y1.1) (some (p0, false, ())) (cond (jw (((List.length p1) : Nat) : Int) (((List.length p0) : Nat) : Int) (List.length p0)) (some ((slice p0 (Int.toNat (((List.length p1) : Nat) : Int)) (Int.toNat (((List.length p0) : Nat) : Int))), true, ())) none)))
def jn (N : Nat) (p0 : (List UInt8)) (p1 : (List UInt8)) : Option ((List UInt8) × Bool × Unit) :=
 (Option.bind (jq N p0 p1) fun y1 => (some (y1.1, y1.2.1, ())))
def qh (N : Nat) (p0 : (List UInt8)) (p1 : (List UInt8)) : Option (Bool × Unit) :=
 (cond (decide ((((List.length p1) : Nat) : Int) <= (((List.length p0) : Nat) : Int))) (cond (jw (IntKind.wrap .i64 ((((List.length p0) : Nat) : Int) - (((List.length p1) : Nat) : Int))) (((List.length p0) : Nat) : Int) (List.length p0)) (some (((slice p0 (Int.toNat (IntKind.wrap .i64 ((((List.length p0) : Nat) : Int) - (((List.length p1) : Nat) : Int)))) (Int.toNat (((List.length p0) : Nat) : Int))) == p1), ())) none) (some (false, ())))
def qk (N : Nat) (p0 : (List UInt8)) (p1 : (List UInt8)) : Option ((List UInt8) × Bool × Unit) :=
 (Option.bind (qh N p0 p1) fun y1 => (cond (!y1.1) (some (p0, false, ())) (cond (jw 0 (IntKind.wrap .i64 ((((List.length p0) : Nat) : Int) - (((List.length p1) : Nat) : Int))) (List.length p0)) (some ((slice p0 0 (Int.toNat (IntKind.wrap .i64 ((((List.length p0) : Nat) : Int) - (((List.length p1) : Nat) : Int))))), true, ())) none)))
def zS (N : Nat) (p0 : (List UInt8)) (p1 : (List UInt8)) : Option ((List UInt8) × Bool × Unit) :=
 (Option.bind (qk N p0 p1) fun y1 => (some (y1.1, y1.2.1, ())))
def zeR (N : Nat) {R : Type} (x6 : UInt8) (x7 : Int) (x8 : List UInt8) (rec_ : (UInt8) -> (Int) -> (List UInt8) -> Option R) (o0 : (List UInt8) -> Option R) : Option R :=
 (cond (decide (x7 < 5)) (cond (decide (0 <= x7)) (cond ((x6 &&& (zrv 1 x7)) != 0) (cond (Nat.blt ((List.length x8) + 1) jd) (rec_ x6 (IntKind.wrap .i64 (x7 + 1)) (x8 ++ ([(x6 &&& (zrv 1 x7))] : List UInt8))) none) (rec_ x6 (IntKind.wrap .i64 (x7 + 1)) x8)) none) (o0 x8))
def km (N : Nat) : Nat -> (UInt8) -> (Int) -> (List UInt8) -> Option ((List UInt8))
 | 0, _, _, _ => none
 | m + 1, x6, x7, x8 => zeR N x6 x7 x8 (km N m) (fun v0 => some v0)
def zcD (N : Nat) (p0 : UInt8) : Option ((List UInt8) × Unit) :=
 (Option.bind (km N N p0 0 []) fun o10 => (some (o10, ())))
def ze5 (N : Nat) {R : Type} (x3 : UInt8) (x4 : Int) (x5 : List (List UInt8)) (rec_ : (UInt8) -> (Int) -> (List (List UInt8)) -> Option R) (o0 : (List UInt8) -> (List (List UInt8)) -> Option R) (o1 : (List (List UInt8)) -> Option R) : Option R :=
 (cond (decide (x4 < 5)) (cond (inb x4 (List.length x5)) (cond (decide (0 <= x4)) (cond (x3 == (zrv 1 x4)) (o0 (nth .str x5 (Int.toNat x4)) x5) (rec_ x3 (IntKind.wrap .i64 (x4 + 1)) x5)) none) none) (o1 x5))
def ko (N : Nat) : Nat -> (UInt8) -> (Int) -> (List (List UInt8)) -> Option (((List UInt8) × (List (List UInt8))) ⊕ ((List (List UInt8))))
 | 0, _, _, _ => none
 | m + 1, x3, x4, x5 => ze5 N x3 x4 x5 (ko N m) (fun v0 v1 => some (Sum.inl (v0, v1))) (fun v0 => some (Sum.inr v0))
def zfP (N : Nat) (p0 : UInt8) : Option ((List UInt8) × Unit) :=
 (Option.bind (ko N N p0 0 ([[92, 65, 110, 115, 119, 101, 114, 101, 100], [92, 70, 108, 97, 103, 103, 101, 100], [92, 68, 101, 108, 101, 116, 101, 100], [92, 83, 101, 101, 110], [92, 68, 114, 97, 102, 116]] : List (List UInt8))) fun o11 => (zk o11 (fun a12 => (some (a12.1, ()))) (fun b13 => (some ([], ())))))
def zdn (N : Nat) {R : Type} (x21 : List UInt8) (x22 : Int) (x23 : Int) (x24 : List ((List UInt8) × UInt8)) (rec_ : (List UInt8) -> (Int) -> (Int) -> (List ((List UInt8) × UInt8)) -> Option R) (o0 : (List ((List UInt8) × UInt8)) -> Option R) : Option R :=
 (cond (decide (x23 < x22)) (cond (inb x23 (List.length x21)) (Option.bind (zfP N (nth .u8 x21 (Int.toNat x23))) fun y28 => (Option.bind (jf N y28.1) fun y29 => (rec_ x21 x22 (IntKind.wrap .i64 (x23 + 1)) (ziO .str .u8 x24 y29.1 (nth .u8 x21 (Int.toNat x23)))))) none) (o0 x24))
def jv (N : Nat) : Nat -> (List UInt8) -> (Int) -> (Int) -> (List ((List UInt8) × UInt8)) -> Option ((List ((List UInt8) × UInt8)))
 | 0, _, _, _, _ => none
 | m + 1, x21, x22, x23, x24 => zdn N x21 x22 x23 x24 (jv N m) (fun v0 => some v0)
def wD (N : Nat) {R : Type} (x40 : UInt8) (x41 : Int) (x42 : Int) (x43 : List ((List UInt8) × UInt8)) (x44 : List (List UInt8)) (rec_ : (UInt8) -> (Int) -> (Int) -> (List ((List UInt8) × UInt8)) -> (List (List UInt8)) -> Option R) (o0 : (UInt8) -> (List ((List UInt8) × UInt8)) -> (List (List UInt8)) -> Option R) (o1 : (UInt8) -> (List ((List UInt8) × UInt8)) -> (List (List UInt8)) -> Option R) : Option R :=
 (cond (decide (x42 < x41)) (cond (inb x42 (List.length x44)) (Option.bind (jf N (nth .str x44 (Int.toNat x42))) fun y47 => (cond (!(Option.isSome (zaQ .str .u8 x43 y47.1))) (o0 0 x43 x44) (rec_ (x40 ||| (Option.getD (zaQ .str .u8 x43 y47.1) 0)) x41 (IntKind.wrap .i64 (x42 + 1)) x43 x44))) none) (o1 x40 x43 x44))
def qF (N : Nat) : Nat -> (UInt8) -> (Int) -> (Int) -> (List ((List UInt8) × UInt8)) -> (List (List UInt8)) -> Option (((UInt8) × (List ((List UInt8) × UInt8)) × (List (List UInt8))) ⊕ ((UInt8) × (List ((List UInt8) × UInt8)) × (List (List UInt8))))
 | 0, _, _, _, _, _ => none
 | m + 1, x40, x41, x42, x43, x44 => wD N x40 x41 x42 x43 x44 (qF N m) (fun v0 v1 v2 => some (Sum.inl (v0, v1, v2))) (fun v0 v1 v2 => some (Sum.inr (v0, v1, v2)))
def jL (N : Nat) (p0 : (List UInt8)) : Option (UInt8 × Bool × Unit) :=
 (Option.bind (jn N p0 [40]) fun y1 => (Option.bind (zS N y1.1 [41]) fun y2 => (cond (!y1.2.1) (some (0, false, ())) (cond (!y2.2.1) (some (0, false, ())) (cond (y2.1 == []) (some (0, true, ())) (Option.bind (zcD N 31) fun y3 => (Option.bind (jv N N y3.1 (((List.length y3.1) : Nat) : Int) 0 []) fun o30 => (cond (Nat.ble (List.length y2.1) zhs) (Option.bind (qF N N 0 (((List.length (jb y2.1 [32])) : Nat) : Int) 0 o30 (jb y2.1 [32])) fun o52 => (zk o52 (fun a53 => (some (a53.1, false, ()))) (fun b54 => (some (b54.1, true, ()))))) none))))))))
def zU (N : Nat) (p0 : (List UInt8)) : Option (Int × Bool × Unit) :=
 (cond (p0 == [42]) (some (0, true, ())) (Option.bind (wE N p0) fun y1 => (cond y1.2.1 (some (y1.1, (y1.1 != 0), ())) (some (y1.1, false, ())))))
def kZ (N : Nat) {R : Type} (x30 : Int) (x31 : Int) (x32 : List (List UInt8)) (x33 : List (Int × Int)) (rec_ : (Int) -> (Int) -> (List (List UInt8)) -> (List (Int × Int)) -> Option R) (o0 : (List (List UInt8)) -> (List (Int × Int)) -> Option R) (o1 : (List (List UInt8)) -> (List (Int × Int)) -> Option R) : Option R :=
 (cond (decide (x31 < x30)) (cond (inb x31 (List.length x32)) (cond ([58] == (nth .str x32 (Int.toNat x31))) (cond (jw 0 0 (List.length (nth .str x32 (Int.toNat x31)))) (cond (jw 1 (((List.length (nth .str x32 (Int.toNat x31))) : Nat) : Int) (List.length (nth .str x32 (Int.toNat x31)))) (Option.bind (zU N (slice (nth .str x32 (Int.toNat x31)) 0 0)) fun y42 => (Option.bind (zU N (slice (nth .str x32 (Int.toNat x31)) 1 (Int.toNat (((List.length (nth .str x32 (Int.toNat x31))) : Nat) : Int)))) fun y43 => (cond (!y42.2.1) (o0 x32 x33) (cond (!y43.2.1) (o0 x32 x33) (cond (Nat.blt ((List.length x33) + 1) jd) (rec_ x30 (IntKind.wrap .i64 (x31 + 1)) x32 (x33 ++ ([(y42.1, y43.1)] : List (Int × Int)))) none))))) none) none) (Option.bind (qj N (nth .str x32 (Int.toNat x31)) 58) fun y44 => (cond (decide (0 <= y44.1)) (cond (jw 0 y44.1 (List.length (nth .str x32 (Int.toNat x31)))) (cond (jw (IntKind.wrap .i64 (y44.1 + 1)) (((List.length (nth .str x32 (Int.toNat x31))) : Nat) : Int) (List.length (nth .str x32 (Int.toNat x31)))) (Option.bind (zU N (slice (nth .str x32 (Int.toNat x31)) 0 (Int.toNat y44.1))) fun y45 => (Option.bind (zU N (slice (nth .str x32 (Int.toNat x31)) (Int.toNat (IntKind.wrap .i64 (y44.1 + 1))) (Int.toNat (((List.length (nth .str x32 (Int.toNat x31))) : Nat) : Int)))) fun y46 => (cond (!y45.2.1) (o0 x32 x33) (cond (!y46.2.1) (o0 x32 x33) (cond (Nat.blt ((List.length x33) + 1) jd) (rec_ x30 (IntKind.wrap .i64 (x31 + 1)) x32 (x33 ++ ([(y45.1, y46.1)] : List (Int × Int)))) none))))) none) none) (Option.bind (zU N (nth .str x32 (Int.toNat x31))) fun y47 => (Option.bind (zU N (nth .str x32 (Int.toNat x31))) fun y48 => (cond (!y47.2.1) (o0 x32 x33) (cond (!y48.2.1) (o0 x32 x33) (cond (Nat.blt ((List.length x33) + 1) jd) (rec_ x30 (IntKind.wrap .i64 (x31 + 1)) x32 (x33 ++ ([(y47.1, y48.1)] : List (Int × Int)))) none)))))))) none) (o1 x32 x33))
def zC (N : Nat) : Nat -> (Int) -> (Int) -> (List (List UInt8)) -> (List (Int × Int)) -> Option (((List (List UInt8)) × (List (Int × Int))) ⊕ ((List (List UInt8)) × (List (Int × Int))))
 | 0, _, _, _, _ => none
 | m + 1, x30, x31, x32, x33 => kZ N x30 x31 x32 x33 (zC N m) (fun v0 v1 => some (Sum.inl (v0, v1))) (fun v0 v1 => some (Sum.inr (v0, v1)))
def jy (N : Nat) (p0 : (List UInt8)) : Option ((List (Int × Int)) × Bool × Unit) :=
 (cond (Nat.ble (List.length p0) zhs) (Option.bind (zC N N (((List.length (jb p0 [44])) : Nat) : Int) 0 (jb p0 [44]) []) fun o53 => (zk o53 (fun a54 => (some ([], false, ()))) (fun b55 => (some (b55.2, true, ()))))) none)
def jx (N : Nat) (p0 : (List UInt8)) : Option (Int × Bool × Unit) :=
 (Option.bind (jf N p0) fun y1 => (Option.bind (zp N ([[70, 76, 65, 71, 83], [85, 73, 68], [82, 70, 67, 56, 50, 50, 46, 83, 73, 90, 69], [66, 79, 68, 89, 46, 80, 69, 69, 75, 91, 93], [66, 79, 68, 89, 91, 93]] : List (List UInt8)) y1.1) fun y2 => (cond (decide (y2.1 < 0)) (some (0, false, ())) (cond (decide (0 <= y2.1)) (some ((IntKind.wrap .i64 (1 * (2 ^ (min (Int.toNat y2.1) (IntKind.bits .i64))))), true, ())) none))))
def kG (N : Nat) {R : Type} (x18 : List UInt8) (x19 : Int) (x20 : Int) (rec_ : (List UInt8) -> (Int) -> (Int) -> Option R) (o0 : Unit -> Option R) (o1 : Unit -> Option R) : Option R :=
 (cond (decide (x20 < x19)) (cond (inb x20 (List.length x18)) (Option.bind (zK N (nth .u8 x18 (Int.toNat x20))) fun y23 => (cond (!y23.1) (o0 ()) (rec_ x18 x19 (IntKind.wrap .i64 (x20 + 1))))) none) (o1 ()))
def z6 (N : Nat) : Nat -> (List UInt8) -> (Int) -> (Int) -> Option ((Unit) ⊕ (Unit))
 | 0, _, _, _ => none
 | m + 1, x18, x19, x20 => kG N x18 x19 x20 (z6 N m) (fun _ => some (Sum.inl ())) (fun _ => some (Sum.inr ()))
def qQ (N : Nat) {R : Type} (x40 : List (El uS1)) (x41 : List UInt8) (x42 : Int) (x43 : List UInt8) (x44 : UInt8) (rec_ : (List (El uS1)) -> (List UInt8) -> (Int) -> (List UInt8) -> (UInt8) -> Option R) (o0 : (List (El uS1)) -> (List UInt8) -> (Int) -> (List UInt8) -> (UInt8) -> Option R) (o1 : (List (El uS1)) -> (List UInt8) -> (Int) -> (List UInt8) -> (UInt8) -> Option R) : Option R :=
 (cond (inb 0 (List.length x40)) (Option.bind (za N ([4] : List Int) (nth uS1 x40 0).1) fun y49 => (cond (!y49.1) (o0 x40 x41 x42 x43 x44) (cond (zY 1 x40 && true) (cond (decide (List.length ([40] : List UInt8) + List.length (nth uS1 x40 0).2.1 < 4611686018427387904)) (cond (decide (List.length (([40] : List UInt8) ++ (nth uS1 x40 0).2.1) + List.length ([41] : List UInt8) < 4611686018427387904)) (Option.bind (jL N ((([40] : List UInt8) ++ (nth uS1 x40 0).2.1) ++ ([41] : List UInt8))) fun y50 => (cond y50.2.1 (cond (!((nth uS1 x40 0).2.1 != ([] : List UInt8))) (o0 (ze x40 1) x41 x42 x43 x44) (cond (inb 0 (List.length (ze x40 1))) (cond ((nth uS1 (ze x40 1) 0).1 == (3 : Int)) (o1 (ze x40 1) x41 x42 x43 (x44 ||| y50.1)) (cond (inb 0 (List.length (ze x40 1))) (Option.bind (za N ([1] : List Int) (nth uS1 (ze x40 1) 0).1) fun y51 => (cond (!y51.1) (o0 (ze x40 1) x41 x42 x43 (x44 ||| y50.1)) (cond (zY 1 (ze x40 1) && true) (rec_ (ze (ze x40 1) 1) x41 x42 x43 (x44 ||| y50.1)) none))) none)) none)) (o0 (ze x40 1) x41 x42 x43 x44))) none) none) none))) none)
def zA (N : Nat) : Nat -> (List (El uS1)) -> (List UInt8) -> (Int) -> (List UInt8) -> (UInt8) -> Option (((List (El uS1)) × (List UInt8) × (Int) × (List UInt8) × (UInt8)) ⊕ ((List (El uS1)) × (List UInt8) × (Int) × (List UInt8) × (UInt8)))
 | 0, _, _, _, _, _ => none
 | m + 1, x40, x41, x42, x43, x44 => qQ N x40 x41 x42 x43 x44 (zA N m) (fun v0 v1 v2 v3 v4 => some (Sum.inl (v0, v1, v2, v3, v4))) (fun v0 v1 v2 v3 v4 => some (Sum.inr (v0, v1, v2, v3, v4)))
def kJ (N : Nat) {R : Type} (x75 : List UInt8) (x76 : Int) (x77 : Int) (rec_ : (List UInt8) -> (Int) -> (Int) -> Option R) (o0 : Unit -> Option R) (o1 : Unit -> Option R) : Option R :=
 (cond (decide (x77 < x76)) (cond (inb x77 (List.length x75)) (Option.bind (zK N (nth .u8 x75 (Int.toNat x77))) fun y80 => (cond (!y80.1) (o0 ()) (rec_ x75 x76 (IntKind.wrap .i64 (x77 + 1))))) none) (o1 ()))
def zZ (N : Nat) : Nat -> (List UInt8) -> (Int) -> (Int) -> Option ((Unit) ⊕ (Unit))
 | 0, _, _, _ => none
 | m + 1, x75, x76, x77 => kJ N x75 x76 x77 (zZ N m) (fun _ => some (Sum.inl ())) (fun _ => some (Sum.inr ()))
def zbv (N : Nat) {R : Type} (x94 : List (El uS1)) (x95 : List UInt8) (x96 : Int) (x97 : List UInt8) (x98 : UInt8) (rec_ : (List (El uS1)) -> (List UInt8) -> (Int) -> (List UInt8) -> (UInt8) -> Option R) (o0 : (List (El uS1)) -> (List UInt8) -> (Int) -> (List UInt8) -> (UInt8) -> Option R) (o1 : (List (El uS1)) -> (List UInt8) -> (Int) -> (List UInt8) -> (UInt8) -> Option R) : Option R :=
 (cond (inb 0 (List.length x94)) (Option.bind (za N ([4] : List Int) (nth uS1 x94 0).1) fun y103 => (cond (!y103.1) (o0 x94 x95 x96 x97 x98) (cond (zY 1 x94 && true) (cond (decide (List.length ([40] : List UInt8) + List.length (nth uS1 x94 0).2.1 < 4611686018427387904)) (cond (decide (List.length (([40] : List UInt8) ++ (nth uS1 x94 0).2.1) + List.length ([41] : List UInt8) < 4611686018427387904)) (Option.bind (jL N ((([40] : List UInt8) ++ (nth uS1 x94 0).2.1) ++ ([41] : List UInt8))) fun y104 => (cond y104.2.1 (cond (!((nth uS1 x94 0).2.1 != ([] : List UInt8))) (o0 (ze x94 1) x95 x96 x97 x98) (cond (inb 0 (List.length (ze x94 1))) (cond ((nth uS1 (ze x94 1) 0).1 == (3 : Int)) (o1 (ze x94 1) x95 x96 x97 (x98 ||| y104.1)) (cond (inb 0 (List.length (ze x94 1))) (Option.bind (za N ([1] : List Int) (nth uS1 (ze x94 1) 0).1) fun y105 => (cond (!y105.1) (o0 (ze x94 1) x95 x96 x97 (x98 ||| y104.1)) (cond (zY 1 (ze x94 1) && true) (rec_ (ze (ze x94 1) 1) x95 x96 x97 (x98 ||| y104.1)) none))) none)) none)) (o0 (ze x94 1) x95 x96 x97 x98))) none) none) none))) none)
def jT (N : Nat) : Nat -> (List (El uS1)) -> (List UInt8) -> (Int) -> (List UInt8) -> (UInt8) -> Option (((List (El uS1)) × (List UInt8) × (Int) × (List UInt8) × (UInt8)) ⊕ ((List (El uS1)) × (List UInt8) × (Int) × (List UInt8) × (UInt8)))
 | 0, _, _, _, _, _ => none
 | m + 1, x94, x95, x96, x97, x98 => zbv N x94 x95 x96 x97 x98 (jT N m) (fun v0 v1 v2 v3 v4 => some (Sum.inl (v0, v1, v2, v3, v4))) (fun v0 v1 v2 v3 v4 => some (Sum.inr (v0, v1, v2, v3, v4)))
def qy (N : Nat) {R : Type} (x143 : List (El uS1)) (x144 : List UInt8) (x145 : Int) (x146 : List (Int × Int)) (x147 : Int) (x148 : UInt8) (rec_ : (List (El uS1)) -> (List UInt8) -> (Int) -> (List (Int × Int)) -> (Int) -> (UInt8) -> Option R) (o0 : (List (El uS1)) -> (List UInt8) -> (Int) -> (List (Int × Int)) -> (Int) -> (UInt8) -> Option R) (o1 : (List (El uS1)) -> (List UInt8) -> (Int) -> (List (Int × Int)) -> (Int) -> (UInt8) -> Option R) : Option R :=
 (cond (inb 0 (List.length x143)) (Option.bind (za N ([4] : List Int) (nth uS1 x143 0).1) fun y153 => (cond (!y153.1) (o0 x143 x144 x145 x146 x147 x148) (cond (zY 1 x143 && true) (Option.bind (jx N (nth uS1 x143 0).2.1) fun y154 => (cond (!y154.2.1) (o0 (ze x143 1) x144 x145 x146 x147 x148) (cond (inb 0 (List.length (ze x143 1))) (cond ((nth uS1 (ze x143 1) 0).1 == (3 : Int)) (o1 (ze x143 1) x144 x145 x146 (k9 .or .i64 x147 y154.1) x148) (cond (inb 0 (List.length (ze x143 1))) (Option.bind (za N ([1] : List Int) (nth uS1 (ze x143 1) 0).1) fun y155 => (cond (!y155.1) (o0 (ze x143 1) x144 x145 x146 (k9 .or .i64 x147 y154.1) x148) (cond (zY 1 (ze x143 1) && true) (rec_ (ze (ze x143 1) 1) x144 x145 x146 (k9 .or .i64 x147 y154.1) x148) none))) none)) none))) none))) none)
def zy (N : Nat) : Nat -> (List (El uS1)) -> (List UInt8) -> (Int) -> (List (Int × Int)) -> (Int) -> (UInt8) -> Option (((List (El uS1)) × (List UInt8) × (Int) × (List (Int × Int)) × (Int) × (UInt8)) ⊕ ((List (El uS1)) × (List UInt8) × (Int) × (List (Int × Int)) × (Int) × (UInt8)))
 | 0, _, _, _, _, _, _ => none
 | m + 1, x143, x144, x145, x146, x147, x148 => qy N x143 x144 x145 x146 x147 x148 (zy N m) (fun v0 v1 v2 v3 v4 v5 => some (Sum.inl (v0, v1, v2, v3, v4, v5))) (fun v0 v1 v2 v3 v4 v5 => some (Sum.inr (v0, v1, v2, v3, v4, v5)))
def qw (N : Nat) {R : Type} (x179 : List (El uS1)) (x180 : List UInt8) (x181 : Int) (x182 : List (Int × Int)) (x183 : Int) (x184 : Bool) (x185 : UInt8) (rec_ : (List (El uS1)) -> (List UInt8) -> (Int) -> (List (Int × Int)) -> (Int) -> (Bool) -> (UInt8) -> Option R) (o0 : (List (El uS1)) -> (List UInt8) -> (Int) -> (List (Int × Int)) -> (Int) -> (Bool) -> (UInt8) -> Option R) (o1 : (List (El uS1)) -> (List UInt8) -> (Int) -> (List (Int × Int)) -> (Int) -> (Bool) -> (UInt8) -> Option R) : Option R :=
 (cond (inb 0 (List.length x179)) (Option.bind (za N ([4] : List Int) (nth uS1 x179 0).1) fun y190 => (cond (!y190.1) (o0 x179 x180 x181 x182 x183 x184 x185) (cond (zY 1 x179 && true) (cond (decide (List.length ([40] : List UInt8) + List.length (nth uS1 x179 0).2.1 < 4611686018427387904)) (cond (decide (List.length (([40] : List UInt8) ++ (nth uS1 x179 0).2.1) + List.length ([41] : List UInt8) < 4611686018427387904)) (Option.bind (jL N ((([40] : List UInt8) ++ (nth uS1 x179 0).2.1) ++ ([41] : List UInt8))) fun y191 => (cond y191.2.1 (cond (!((nth uS1 x179 0).2.1 != ([] : List UInt8))) (o0 (ze x179 1) x180 x181 x182 x183 x184 x185) (cond (inb 0 (List.length (ze x179 1))) (cond ((nth uS1 (ze x179 1) 0).1 == (3 : Int)) (o1 (ze x179 1) x180 x181 x182 x183 x184 (x185 ||| y191.1)) (cond (inb 0 (List.length (ze x179 1))) (Option.bind (za N ([1] : List Int) (nth uS1 (ze x179 1) 0).1) fun y192 => (cond (!y192.1) (o0 (ze x179 1) x180 x181 x182 x183 x184 (x185 ||| y191.1)) (cond (zY 1 (ze x179 1) && true) (rec_ (ze (ze x179 1) 1) x180 x181 x182 x183 x184 (x185 ||| y191.1)) none))) none)) none)) (o0 (ze x179 1) x180 x181 x182 x183 x184 x185))) none) none) none))) none)
def zz (N : Nat) : Nat -> (List (El uS1)) -> (List UInt8) -> (Int) -> (List (Int × Int)) -> (Int) -> (Bool) -> (UInt8) -> Option (((List (El uS1)) × (List UInt8) × (Int) × (List (Int × Int)) × (Int) × (Bool) × (UInt8)) ⊕ ((List (El uS1)) × (List UInt8) × (Int) × (List (Int × Int)) × (Int) × (Bool) × (UInt8)))
 | 0, _, _, _, _, _, _, _ => none
 | m + 1, x179, x180, x181, x182, x183, x184, x185 => qw N x179 x180 x181 x182 x183 x184 x185 (zz N m) (fun v0 v1 v2 v3 v4 v5 v6 => some (Sum.inl (v0, v1, v2, v3, v4, v5, v6))) (fun v0 v1 v2 v3 v4 v5 v6 => some (Sum.inr (v0, v1, v2, v3, v4, v5, v6)))
def qz (N : Nat) {R : Type} (x208 : List (El uS1)) (x209 : List UInt8) (x210 : Int) (x211 : List (Int × Int)) (x212 : Int) (x213 : Bool) (x214 : UInt8) (rec_ : (List (El uS1)) -> (List UInt8) -> (Int) -> (List (Int × Int)) -> (Int) -> (Bool) -> (UInt8) -> Option R) (o0 : (List (El uS1)) -> (List UInt8) -> (Int) -> (List (Int × Int)) -> (Int) -> (Bool) -> (UInt8) -> Option R) (o1 : (List (El uS1)) -> (List UInt8) -> (Int) -> (List (Int × Int)) -> (Int) -> (Bool) -> (UInt8) -> Option R) : Option R :=
 (cond (inb 0 (List.length x208)) (Option.bind (za N ([4] : List Int) (nth uS1 x208 0).1) fun y219 => (cond (!y219.1) (o0 x208 x209 x210 x211 x212 x213 x214) (cond (zY 1 x208 && true) (cond (decide (List.length ([40] : List UInt8) + List.length (nth uS1 x208 0).2.1 < 4611686018427387904)) (cond (decide (List.length (([40] : List UInt8) ++ (nth uS1 x208 0).2.1) + List.length ([41] : List UInt8) < 4611686018427387904)) (Option.bind (jL N ((([40] : List UInt8) ++ (nth uS1 x208 0).2.1) ++ ([41] : List UInt8))) fun y220 => (cond y220.2.1 (cond (!((nth uS1 x208 0).2.1 != ([] : List UInt8))) (o0 (ze x208 1) x209 x210 x211 x212 x213 x214) (cond (inb 0 (List.length (ze x208 1))) (cond ((nth uS1 (ze x208 1) 0).1 == (0 : Int)) (o1 (ze x208 1) x209 x210 x211 x212 x213 (x214 ||| y220.1)) (cond (inb 0 (List.length (ze x208 1))) (Option.bind (za N ([1] : List Int) (nth uS1 (ze x208 1) 0).1) fun y221 => (cond (!y221.1) (o0 (ze x208 1) x209 x210 x211 x212 x213 (x214 ||| y220.1)) (cond (zY 1 (ze x208 1) && true) (rec_ (ze (ze x208 1) 1) x209 x210 x211 x212 x213 (x214 ||| y220.1)) none))) none)) none)) (o0 (ze x208 1) x209 x210 x211 x212 x213 x214))) none) none) none))) none)
def zB (N : Nat) : Nat -> (List (El uS1)) -> (List UInt8) -> (Int) -> (List (Int × Int)) -> (Int) -> (Bool) -> (UInt8) -> Option (((List (El uS1)) × (List UInt8) × (Int) × (List (Int × Int)) × (Int) × (Bool) × (UInt8)) ⊕ ((List (El uS1)) × (List UInt8) × (Int) × (List (Int × Int)) × (Int) × (Bool) × (UInt8)))
 | 0, _, _, _, _, _, _, _ => none
 | m + 1, x208, x209, x210, x211, x212, x213, x214 => qz N x208 x209 x210 x211 x212 x213 x214 (zB N m) (fun v0 v1 v2 v3 v4 v5 v6 => some (Sum.inl (v0, v1, v2, v3, v4, v5, v6))) (fun v0 v1 v2 v3 v4 v5 v6 => some (Sum.inr (v0, v1, v2, v3, v4, v5, v6)))
def B1 (N : Nat) (tag : List UInt8) (kd : Int) (l : List (El uS1)) : Option ((El uS2) × Bool × Unit) :=
 (cond (inb (0 : Int) (List.length l)) (Option.bind (za N ([(0 : Int)] : List Int) (nth uS1 l 0).1) fun y5 => (cond (!y5.1) (some ((tag, ((0 : Int), (([] : List UInt8), (([] : List (Int × Int)), ((0 : Int), ((0 : Int), (false, ((0 : UInt8), ([] : List UInt8))))))))), false, ())) (cond (zY (1 : Int) l && true) (some ((tag, (kd, (([] : List UInt8), (([] : List (Int × Int)), ((0 : Int), ((0 : Int), (false, ((0 : UInt8), ([] : List UInt8))))))))), true, ())) none))) none)
def E5 (N : Nat) (tag : List UInt8) (kd : Int) (mb : List UInt8) (q : List (El uS1)) : Option ((El uS2) × Bool × Unit) :=
 (cond (inb (0 : Int) (List.length q)) (Option.bind (za N ([(0 : Int)] : List Int) (nth uS1 q 0).1) fun y11 => (cond (!y11.1) (some ((tag, ((0 : Int), (([] : List UInt8), (([] : List (Int × Int)), ((0 : Int), ((0 : Int), (false, ((0 : UInt8), ([] : List UInt8))))))))), false, ())) (cond (zY (1 : Int) q && true) (some ((tag, (kd, (mb, (([] : List (Int × Int)), ((0 : Int), ((0 : Int), (false, ((0 : UInt8), ([] : List UInt8))))))))), true, ())) none))) none)
def B5 (N : Nat) (tag : List UInt8) (kd : Int) (l : List (El uS1)) : Option ((El uS2) × Bool × Unit) :=
 (cond (inb (0 : Int) (List.length l)) (Option.bind (za N ([(1 : Int)] : List Int) (nth uS1 l 0).1) fun y9 => (cond (!y9.1) (some ((tag, ((0 : Int), (([] : List UInt8), (([] : List (Int × Int)), ((0 : Int), ((0 : Int), (false, ((0 : UInt8), ([] : List UInt8))))))))), false, ())) (cond (zY (1 : Int) l && true) (cond (inb (0 : Int) (List.length (ze l 1))) (cond (inb (0 : Int) (List.length (ze l 1))) (Option.bind (za N ([(4 : Int), (5 : Int), (6 : Int)] : List Int) (nth uS1 (ze l 1) 0).1) fun y10 => (cond (!y10.1) (some ((tag, ((0 : Int), (([] : List UInt8), (([] : List (Int × Int)), ((0 : Int), ((0 : Int), (false, ((0 : UInt8), ([] : List UInt8))))))))), false, ())) (cond (zY (1 : Int) (ze l 1) && true) (cond ((nth uS1 (ze l 1) 0).1 != (4 : Int)) (E5 N tag kd (nth uS1 (ze l 1) 0).2.1 (ze (ze l 1) 1)) (cond ((nth uS1 (ze l 1) 0).2.1 != ([] : List UInt8)) (Option.bind (z6 N N (nth uS1 (ze l 1) 0).2.1 (((List.length (nth uS1 (ze l 1) 0).2.1) : Nat) : Int) (0 : Int)) fun o26 => (zk o26 (fun a27 => (some ((tag, ((0 : Int), (([] : List UInt8), (([] : List (Int × Int)), ((0 : Int), ((0 : Int), (false, ((0 : UInt8), ([] : List UInt8))))))))), false, ()))) (fun b28 => (E5 N tag kd (nth uS1 (ze l 1) 0).2.1 (ze (ze l 1) 1))))) (some ((tag, ((0 : Int), (([] : List UInt8), (([] : List (Int × Int)), ((0 : Int), ((0 : Int), (false, ((0 : UInt8), ([] : List UInt8))))))))), false, ())))) none))) none) none) none))) none)
def G6 (N : Nat) (tag : List UInt8) (tag1 : List UInt8) (kd1 : Int) (mb1 : List UInt8) (f : UInt8) (l : List (El uS1)) : Option ((El uS2) × Bool × Unit) :=
 (cond (inb (0 : Int) (List.length l)) (Option.bind (za N ([(3 : Int)] : List Int) (nth uS1 l 0).1) fun y55 => (cond (!y55.1) (some ((tag, ((0 : Int), (([] : List UInt8), (([] : List (Int × Int)), ((0 : Int), ((0 : Int), (false, ((0 : UInt8), ([] : List UInt8))))))))), false, ())) (cond (zY (1 : Int) l && true) (cond (inb (0 : Int) (List.length (ze l 1))) (Option.bind (za N ([(1 : Int)] : List Int) (nth uS1 (ze l 1) 0).1) fun y56 => (cond (!y56.1) (some ((tag, ((0 : Int), (([] : List UInt8), (([] : List (Int × Int)), ((0 : Int), ((0 : Int), (false, ((0 : UInt8), ([] : List UInt8))))))))), false, ())) (cond (zY (1 : Int) (ze l 1) && true) (cond (inb (0 : Int) (List.length (ze (ze l 1) 1))) (Option.bind (za N ([(6 : Int)] : List Int) (nth uS1 (ze (ze l 1) 1) 0).1) fun y57 => (cond (!y57.1) (some ((tag, ((0 : Int), (([] : List UInt8), (([] : List (Int × Int)), ((0 : Int), ((0 : Int), (false, ((0 : UInt8), ([] : List UInt8))))))))), false, ())) (cond (zY (1 : Int) (ze (ze l 1) 1) && true) (cond (Nat.blt (List.length (nth uS1 (ze (ze l 1) 1) 0).2.1) jd) (cond (inb (0 : Int) (List.length (ze (ze (ze l 1) 1) 1))) (Option.bind (za N ([(0 : Int)] : List Int) (nth uS1 (ze (ze (ze l 1) 1) 1) 0).1) fun y58 => (cond (!y58.1) (some ((tag, ((0 : Int), (([] : List UInt8), (([] : List (Int × Int)), ((0 : Int), ((0 : Int), (false, ((0 : UInt8), ([] : List UInt8))))))))), false, ())) (cond (zY (1 : Int) (ze (ze (ze l 1) 1) 1) && true) (some ((tag1, (kd1, (mb1, (([] : List (Int × Int)), ((0 : Int), ((0 : Int), (false, (f, (nth uS1 (ze (ze l 1) 1) 0).2.1)))))))), true, ())) none))) none) none) none))) none) none))) none) none))) none)
def D6 (N : Nat) (tag : List UInt8) (kd : Int) (mb : List UInt8) (r : List (El uS1)) : Option ((El uS2) × Bool × Unit) :=
 (cond (inb (0 : Int) (List.length r)) (cond ((nth uS1 r 0).1 == (2 : Int)) (cond (inb (0 : Int) (List.length r)) (Option.bind (za N ([(2 : Int)] : List Int) (nth uS1 r 0).1) fun y33 => (cond (!y33.1) (some ((tag, ((0 : Int), (([] : List UInt8), (([] : List (Int × Int)), ((0 : Int), ((0 : Int), (false, ((0 : UInt8), ([] : List UInt8))))))))), false, ())) (cond (zY (1 : Int) r && true) (cond (inb (0 : Int) (List.length (ze r 1))) (cond ((nth uS1 (ze r 1) 0).1 != (3 : Int)) (Option.bind (zA N N (ze r 1) tag kd mb (0 : UInt8)) fun o52 => (zk o52 (fun a53 => (some ((tag, ((0 : Int), (([] : List UInt8), (([] : List (Int × Int)), ((0 : Int), ((0 : Int), (false, ((0 : UInt8), ([] : List UInt8))))))))), false, ()))) (fun b54 => (G6 N tag b54.2.1 b54.2.2.1 b54.2.2.2.1 b54.2.2.2.2 b54.1)))) (G6 N tag tag kd mb (0 : UInt8) (ze r 1))) none) none))) none) (cond (inb (0 : Int) (List.length r)) (Option.bind (za N ([(6 : Int)] : List Int) (nth uS1 r 0).1) fun y63 => (cond (!y63.1) (some ((tag, ((0 : Int), (([] : List UInt8), (([] : List (Int × Int)), ((0 : Int), ((0 : Int), (false, ((0 : UInt8), ([] : List UInt8))))))))), false, ())) (cond (zY (1 : Int) r && true) (cond (Nat.blt (List.length (nth uS1 r 0).2.1) jd) (cond (inb (0 : Int) (List.length (ze r 1))) (Option.bind (za N ([(0 : Int)] : List Int) (nth uS1 (ze r 1) 0).1) fun y64 => (cond (!y64.1) (some ((tag, ((0 : Int), (([] : List UInt8), (([] : List (Int × Int)), ((0 : Int), ((0 : Int), (false, ((0 : UInt8), ([] : List UInt8))))))))), false, ())) (cond (zY (1 : Int) (ze r 1) && true) (some ((tag, (kd, (mb, (([] : List (Int × Int)), ((0 : Int), ((0 : Int), (false, ((0 : UInt8), (nth uS1 r 0).2.1)))))))), true, ())) none))) none) none) none))) none)) none)
def C6 (N : Nat) (tag : List UInt8) (kd : Int) (mb : List UInt8) (q : List (El uS1)) : Option ((El uS2) × Bool × Unit) :=
 (cond (inb (0 : Int) (List.length q)) (Option.bind (za N ([(1 : Int)] : List Int) (nth uS1 q 0).1) fun y32 => (cond (!y32.1) (some ((tag, ((0 : Int), (([] : List UInt8), (([] : List (Int × Int)), ((0 : Int), ((0 : Int), (false, ((0 : UInt8), ([] : List UInt8))))))))), false, ())) (cond (zY (1 : Int) q && true) (D6 N tag kd mb (ze q 1)) none))) none)
def B6 (N : Nat) (tag : List UInt8) (kd : Int) (l : List (El uS1)) : Option ((El uS2) × Bool × Unit) :=
 (cond (inb (0 : Int) (List.length l)) (Option.bind (za N ([(1 : Int)] : List Int) (nth uS1 l 0).1) fun y30 => (cond (!y30.1) (some ((tag, ((0 : Int), (([] : List UInt8), (([] : List (Int × Int)), ((0 : Int), ((0 : Int), (false, ((0 : UInt8), ([] : List UInt8))))))))), false, ())) (cond (zY (1 : Int) l && true) (cond (inb (0 : Int) (List.length (ze l 1))) (cond (inb (0 : Int) (List.length (ze l 1))) (Option.bind (za N ([(4 : Int), (5 : Int), (6 : Int)] : List Int) (nth uS1 (ze l 1) 0).1) fun y31 => (cond (!y31.1) (some ((tag, ((0 : Int), (([] : List UInt8), (([] : List (Int × Int)), ((0 : Int), ((0 : Int), (false, ((0 : UInt8), ([] : List UInt8))))))))), false, ())) (cond (zY (1 : Int) (ze l 1) && true) (cond ((nth uS1 (ze l 1) 0).1 != (4 : Int)) (C6 N tag kd (nth uS1 (ze l 1) 0).2.1 (ze (ze l 1) 1)) (cond ((nth uS1 (ze l 1) 0).2.1 != ([] : List UInt8)) (Option.bind (zZ N N (nth uS1 (ze l 1) 0).2.1 (((List.length (nth uS1 (ze l 1) 0).2.1) : Nat) : Int) (0 : Int)) fun o79 => (zk o79 (fun a80 => (some ((tag, ((0 : Int), (([] : List UInt8), (([] : List (Int × Int)), ((0 : Int), ((0 : Int), (false, ((0 : UInt8), ([] : List UInt8))))))))), false, ()))) (fun b81 => (C6 N tag kd (nth uS1 (ze l 1) 0).2.1 (ze (ze l 1) 1))))) (some ((tag, ((0 : Int), (([] : List UInt8), (([] : List (Int × Int)), ((0 : Int), ((0 : Int), (false, ((0 : UInt8), ([] : List UInt8))))))))), false, ())))) none))) none) none) none))) none)
def D7 (N : Nat) (tag : List UInt8) (kd : Int) (st : List (Int × Int)) (r : List (El uS1)) : Option ((El uS2) × Bool × Unit) :=
 (cond (inb (0 : Int) (List.length r)) (cond ((nth uS1 r 0).1 != (2 : Int)) (cond (inb (0 : Int) (List.length r)) (Option.bind (za N ([(4 : Int)] : List Int) (nth uS1 r 0).1) fun y119 => (cond (!y119.1) (some ((tag, ((0 : Int), (([] : List UInt8), (([] : List (Int × Int)), ((0 : Int), ((0 : Int), (false, ((0 : UInt8), ([] : List UInt8))))))))), false, ())) (cond (zY (1 : Int) r && true) (Option.bind (jx N (nth uS1 r 0).2.1) fun y120 => (cond (!y120.2.1) (some ((tag, ((0 : Int), (([] : List UInt8), (([] : List (Int × Int)), ((0 : Int), ((0 : Int), (false, ((0 : UInt8), ([] : List UInt8))))))))), false, ())) (cond (inb (0 : Int) (List.length (ze r 1))) (Option.bind (za N ([(0 : Int)] : List Int) (nth uS1 (ze r 1) 0).1) fun y121 => (cond (!y121.1) (some ((tag, ((0 : Int), (([] : List UInt8), (([] : List (Int × Int)), ((0 : Int), ((0 : Int), (false, ((0 : UInt8), ([] : List UInt8))))))))), false, ())) (cond (zY (1 : Int) (ze r 1) && true) (some ((tag, (kd, (([] : List UInt8), (st, ((k9 .or .i64 (0 : Int) y120.1), ((0 : Int), (false, ((0 : UInt8), ([] : List UInt8))))))))), true, ())) none))) none))) none))) none) (cond (inb (0 : Int) (List.length r)) (Option.bind (za N ([(2 : Int)] : List Int) (nth uS1 r 0).1) fun y122 => (cond (!y122.1) (some ((tag, ((0 : Int), (([] : List UInt8), (([] : List (Int × Int)), ((0 : Int), ((0 : Int), (false, ((0 : UInt8), ([] : List UInt8))))))))), false, ())) (cond (zY (1 : Int) r && true) (Option.bind (zy N N (ze r 1) tag kd st (0 : Int) (0 : UInt8)) fun o150 => (zk o150 (fun a151 => (some ((tag, ((0 : Int), (([] : List UInt8), (([] : List (Int × Int)), ((0 : Int), ((0 : Int), (false, ((0 : UInt8), ([] : List UInt8))))))))), false, ()))) (fun b152 => (cond (inb (0 : Int) (List.length b152.1)) (Option.bind (za N ([(3 : Int)] : List Int) (nth uS1 b152.1 0).1) fun y153 => (cond (!y153.1) (some ((tag, ((0 : Int), (([] : List UInt8), (([] : List (Int × Int)), ((0 : Int), ((0 : Int), (false, ((0 : UInt8), ([] : List UInt8))))))))), false, ())) (cond (zY (1 : Int) b152.1 && true) (cond (inb (0 : Int) (List.length (ze b152.1 1))) (Option.bind (za N ([(0 : Int)] : List Int) (nth uS1 (ze b152.1 1) 0).1) fun y154 => (cond (!y154.1) (some ((tag, ((0 : Int), (([] : List UInt8), (([] : List (Int × Int)), ((0 : Int), ((0 : Int), (false, ((0 : UInt8), ([] : List UInt8))))))))), false, ())) (cond (zY (1 : Int) (ze b152.1 1) && true) (some ((b152.2.1, (b152.2.2.1, (([] : List UInt8), (b152.2.2.2.1, (b152.2.2.2.2.1, ((0 : Int), (false, (b152.2.2.2.2.2, ([] : List UInt8))))))))), true, ())) none))) none) none))) none)))) none))) none)) none)
def B7 (N : Nat) (tag : List UInt8) (kd : Int) (l : List (El uS1)) : Option ((El uS2) × Bool × Unit) :=
 (cond (inb (0 : Int) (List.length l)) (Option.bind (za N ([(1 : Int)] : List Int) (nth uS1 l 0).1) fun y115 => (cond (!y115.1) (some ((tag, ((0 : Int), (([] : List UInt8), (([] : List (Int × Int)), ((0 : Int), ((0 : Int), (false, ((0 : UInt8), ([] : List UInt8))))))))), false, ())) (cond (zY (1 : Int) l && true) (cond (inb (0 : Int) (List.length (ze l 1))) (Option.bind (za N ([(4 : Int)] : List Int) (nth uS1 (ze l 1) 0).1) fun y116 => (cond (!y116.1) (some ((tag, ((0 : Int), (([] : List UInt8), (([] : List (Int × Int)), ((0 : Int), ((0 : Int), (false, ((0 : UInt8), ([] : List UInt8))))))))), false, ())) (cond (zY (1 : Int) (ze l 1) && true) (Option.bind (jy N (nth uS1 (ze l 1) 0).2.1) fun y117 => (cond (!y117.2.1) (some ((tag, ((0 : Int), (([] : List UInt8), (([] : List (Int × Int)), ((0 : Int), ((0 : Int), (false, ((0 : UInt8), ([] : List UInt8))))))))), false, ())) (cond (inb (0 : Int) (List.length (ze (ze l 1) 1))) (Option.bind (za N ([(1 : Int)] : List Int) (nth uS1 (ze (ze l 1) 1) 0).1) fun y118 => (cond (!y118.1) (some ((tag, ((0 : Int), (([] : List UInt8), (([] : List (Int × Int)), ((0 : Int), ((0 : Int), (false, ((0 : UInt8), ([] : List UInt8))))))))), false, ())) (cond (zY (1 : Int) (ze (ze l 1) 1) && true) (D7 N tag kd y117.1 (ze (ze (ze l 1) 1) 1)) none))) none))) none))) none) none))) none)
def G8 (N : Nat) (tag : List UInt8) (tag1 : List UInt8) (kd1 : Int) (st1 : List (Int × Int)) (md1 : Int) (sl1 : Bool) (f : UInt8) (l : List (El uS1)) : Option ((El uS2) × Bool × Unit) :=
 (cond (inb (0 : Int) (List.length l)) (Option.bind (za N ([(3 : Int)] : List Int) (nth uS1 l 0).1) fun y188 => (cond (!y188.1) (some ((tag, ((0 : Int), (([] : List UInt8), (([] : List (Int × Int)), ((0 : Int), ((0 : Int), (false, ((0 : UInt8), ([] : List UInt8))))))))), false, ())) (cond (zY (1 : Int) l && true) (cond (inb (0 : Int) (List.length (ze l 1))) (Option.bind (za N ([(0 : Int)] : List Int) (nth uS1 (ze l 1) 0).1) fun y189 => (cond (!y189.1) (some ((tag, ((0 : Int), (([] : List UInt8), (([] : List (Int × Int)), ((0 : Int), ((0 : Int), (false, ((0 : UInt8), ([] : List UInt8))))))))), false, ())) (cond (zY (1 : Int) (ze l 1) && true) (some ((tag1, (kd1, (([] : List UInt8), (st1, ((0 : Int), (md1, (sl1, (f, ([] : List UInt8))))))))), true, ())) none))) none) none))) none)
def D8 (N : Nat) (tag : List UInt8) (kd : Int) (st : List (Int × Int)) (md : Int) (sl : Bool) (r : List (El uS1)) : Option ((El uS2) × Bool × Unit) :=
 (cond (inb (0 : Int) (List.length r)) (cond ((nth uS1 r 0).1 == (2 : Int)) (cond (inb (0 : Int) (List.length r)) (Option.bind (za N ([(2 : Int)] : List Int) (nth uS1 r 0).1) fun y164 => (cond (!y164.1) (some ((tag, ((0 : Int), (([] : List UInt8), (([] : List (Int × Int)), ((0 : Int), ((0 : Int), (false, ((0 : UInt8), ([] : List UInt8))))))))), false, ())) (cond (zY (1 : Int) r && true) (cond (inb (0 : Int) (List.length (ze r 1))) (cond ((nth uS1 (ze r 1) 0).1 != (3 : Int)) (Option.bind (zz N N (ze r 1) tag kd st md sl (0 : UInt8)) fun o185 => (zk o185 (fun a186 => (some ((tag, ((0 : Int), (([] : List UInt8), (([] : List (Int × Int)), ((0 : Int), ((0 : Int), (false, ((0 : UInt8), ([] : List UInt8))))))))), false, ()))) (fun b187 => (G8 N tag b187.2.1 b187.2.2.1 b187.2.2.2.1 b187.2.2.2.2.1 b187.2.2.2.2.2.1 b187.2.2.2.2.2.2 b187.1)))) (G8 N tag tag kd st md sl (0 : UInt8) (ze r 1))) none) none))) none) (Option.bind (zB N N r tag kd st md sl (0 : UInt8)) fun o212 => (zk o212 (fun a213 => (some ((tag, ((0 : Int), (([] : List UInt8), (([] : List (Int × Int)), ((0 : Int), ((0 : Int), (false, ((0 : UInt8), ([] : List UInt8))))))))), false, ()))) (fun b214 => (cond (inb (0 : Int) (List.length b214.1)) (Option.bind (za N ([(0 : Int)] : List Int) (nth uS1 b214.1 0).1) fun y215 => (cond (!y215.1) (some ((tag, ((0 : Int), (([] : List UInt8), (([] : List (Int × Int)), ((0 : Int), ((0 : Int), (false, ((0 : UInt8), ([] : List UInt8))))))))), false, ())) (cond (zY (1 : Int) b214.1 && true) (some ((b214.2.1, (b214.2.2.1, (([] : List UInt8), (b214.2.2.2.1, ((0 : Int), (b214.2.2.2.2.1, (b214.2.2.2.2.2.1, (b214.2.2.2.2.2.2, ([] : List UInt8))))))))), true, ())) none))) none))))) none)
def B8 (N : Nat) (tag : List UInt8) (kd : Int) (l : List (El uS1)) : Option ((El uS2) × Bool × Unit) :=
 (cond (inb (0 : Int) (List.length l)) (Option.bind (za N ([(1 : Int)] : List Int) (nth uS1 l 0).1) fun y155 => (cond (!y155.1) (some ((tag, ((0 : Int), (([] : List UInt8), (([] : List (Int × Int)), ((0 : Int), ((0 : Int), (false, ((0 : UInt8), ([] : List UInt8))))))))), false, ())) (cond (zY (1 : Int) l && true) (cond (inb (0 : Int) (List.length (ze l 1))) (Option.bind (za N ([(4 : Int)] : List Int) (nth uS1 (ze l 1) 0).1) fun y156 => (cond (!y156.1) (some ((tag, ((0 : Int), (([] : List UInt8), (([] : List (Int × Int)), ((0 : Int), ((0 : Int), (false, ((0 : UInt8), ([] : List UInt8))))))))), false, ())) (cond (zY (1 : Int) (ze l 1) && true) (Option.bind (jy N (nth uS1 (ze l 1) 0).2.1) fun y157 => (cond (!y157.2.1) (some ((tag, ((0 : Int), (([] : List UInt8), (([] : List (Int × Int)), ((0 : Int), ((0 : Int), (false, ((0 : UInt8), ([] : List UInt8))))))))), false, ())) (cond (inb (0 : Int) (List.length (ze (ze l 1) 1))) (Option.bind (za N ([(1 : Int)] : List Int) (nth uS1 (ze (ze l 1) 1) 0).1) fun y158 => (cond (!y158.1) (some ((tag, ((0 : Int), (([] : List UInt8), (([] : List (Int × Int)), ((0 : Int), ((0 : Int), (false, ((0 : UInt8), ([] : List UInt8))))))))), false, ())) (cond (zY (1 : Int) (ze (ze l 1) 1) && true) (cond (inb (0 : Int) (List.length (ze (ze (ze l 1) 1) 1))) (Option.bind (za N ([(4 : Int)] : List Int) (nth uS1 (ze (ze (ze l 1) 1) 1) 0).1) fun y159 => (cond (!y159.1) (some ((tag, ((0 : Int), (([] : List UInt8), (([] : List (Int × Int)), ((0 : Int), ((0 : Int), (false, ((0 : UInt8), ([] : List UInt8))))))))), false, ())) (cond (zY (1 : Int) (ze (ze (ze l 1) 1) 1) && true) (Option.bind (jf N (nth uS1 (ze (ze (ze l 1) 1) 1) 0).2.1) fun y160 => (Option.bind (zS N y160.1 ([46, 83, 73, 76, 69, 78, 84] : List UInt8)) fun y161 => (Option.bind (zp N ([([70, 76, 65, 71, 83] : List UInt8), ([43, 70, 76, 65, 71, 83] : List UInt8), ([45, 70, 76, 65, 71, 83] : List UInt8)] : List (List UInt8)) y161.1) fun y162 => (cond (!(decide ((0 : Int) <= y162.1))) (some ((tag, ((0 : Int), (([] : List UInt8), (([] : List (Int × Int)), ((0 : Int), ((0 : Int), (false, ((0 : UInt8), ([] : List UInt8))))))))), false, ())) (cond (inb (0 : Int) (List.length (ze (ze (ze (ze l 1) 1) 1) 1))) (Option.bind (za N ([(1 : Int)] : List Int) (nth uS1 (ze (ze (ze (ze l 1) 1) 1) 1) 0).1) fun y163 => (cond (!y163.1) (some ((tag, ((0 : Int), (([] : List UInt8), (([] : List (Int × Int)), ((0 : Int), ((0 : Int), (false, ((0 : UInt8), ([] : List UInt8))))))))), false, ())) (cond (zY (1 : Int) (ze (ze (ze (ze l 1) 1) 1) 1) && true) (D8 N tag kd y157.1 y162.1 y161.2.1 (ze (ze (ze (ze (ze l 1) 1) 1) 1) 1)) none))) none))))) none))) none) none))) none))) none))) none) none))) none)
def wG (N : Nat) (p0 : (List UInt8)) : Option ((El uS2) × Bool × Unit) :=
 (Option.bind (zbe N p0) fun y1 => (cond (!y1.2.2.1) (some ((y1.1, ((0 : Int), (([] : List UInt8), (([] : List (Int × Int)), ((0 : Int), ((0 : Int), (false, ((0 : UInt8), ([] : List UInt8))))))))), false, ())) (cond (zY y1.2.1 p0 && true) (Option.bind (kk N (ze p0 (Int.toNat y1.2.1))) fun y2 => (cond (!(decide (y2.2.1 < (0 : Int)))) (some ((y1.1, ((0 : Int), (([] : List UInt8), (([] : List (Int × Int)), ((0 : Int), ((0 : Int), (false, ((0 : UInt8), ([] : List UInt8))))))))), false, ())) (cond (inb (0 : Int) (List.length y2.1)) (Option.bind (za N ([(4 : Int)] : List Int) (nth uS1 y2.1 0).1) fun y3 => (cond (!y3.1) (some ((y1.1, ((0 : Int), (([] : List UInt8), (([] : List (Int × Int)), ((0 : Int), ((0 : Int), (false, ((0 : UInt8), ([] : List UInt8))))))))), false, ())) (cond (zY (1 : Int) y2.1 && true) (Option.bind (jW N (nth uS1 y2.1 0).2.1) fun y4 => (cond (!y4.2.1) (some ((y1.1, ((0 : Int), (([] : List UInt8), (([] : List (Int × Int)), ((0 : Int), ((0 : Int), (false, ((0 : UInt8), ([] : List UInt8))))))))), false, ())) (cond (y4.1 == (1 : Int)) (B1 N y1.1 y4.1 (ze y2.1 1)) (cond (y4.1 == (2 : Int)) (B1 N y1.1 y4.1 (ze y2.1 1)) (cond (y4.1 == (3 : Int)) (B1 N y1.1 y4.1 (ze y2.1 1)) (cond (y4.1 == (4 : Int)) (B1 N y1.1 y4.1 (ze y2.1 1)) (cond (y4.1 == (5 : Int)) (B5 N y1.1 y4.1 (ze y2.1 1)) (cond (y4.1 == (6 : Int)) (B6 N y1.1 y4.1 (ze y2.1 1)) (cond (y4.1 == (7 : Int)) (B7 N y1.1 y4.1 (ze y2.1 1)) (cond (y4.1 == (8 : Int)) (B8 N y1.1 y4.1 (ze y2.1 1)) none)))))))))) none))) none))) none)))
def wj (N : Nat) (p0 : UInt8) : Option (Bool × Unit) :=
 (cond (p0 == 40) (cond (p0 == 40) (some (false, ())) (cond (decide (32 < p0)) (some ((decide (p0 < 127)), ())) (some (false, ())))) (cond (p0 == 41) (cond (p0 == 41) (some (false, ())) (cond (decide (32 < p0)) (some ((decide (p0 < 127)), ())) (some (false, ())))) (cond (p0 == 123) (cond (p0 == 123) (some (false, ())) (cond (decide (32 < p0)) (some ((decide (p0 < 127)), ())) (some (false, ())))) (cond (p0 == 37) (cond (p0 == 37) (some (false, ())) (cond (decide (32 < p0)) (some ((decide (p0 < 127)), ())) (some (false, ())))) (cond (p0 == 42) (cond (p0 == 42) (some (false, ())) (cond (decide (32 < p0)) (some ((decide (p0 < 127)), ())) (some (false, ())))) (cond (p0 == 34) (cond (p0 == 34) (some (false, ())) (cond (decide (32 < p0)) (some ((decide (p0 < 127)), ())) (some (false, ())))) (cond (p0 == 92) (cond (p0 == 92) (some (false, ())) (cond (decide (32 < p0)) (some ((decide (p0 < 127)), ())) (some (false, ())))) (cond (p0 == 93) (some (false, ())) (cond (decide (32 < p0)) (some ((decide (p0 < 127)), ())) (some (false, ())))))))))))
def xI (N : Nat) (p0 : UInt8) : Option (Bool × Unit) :=
 (Option.bind (wj N p0) fun y1 => (cond y1.1 (cond (p0 != 43) (some (true, ())) (some ((p0 == 93), ()))) (some ((p0 == 93), ()))))
def zbp (N : Nat) {R : Type} (x3 : List UInt8) (x4 : Int) (rec_ : (List UInt8) -> (Int) -> Option R) (o0 : (List UInt8) -> (Int) -> Option R) : Option R :=
 (cond (decide (x4 < (((List.length x3) : Nat) : Int))) (cond (inb x4 (List.length x3)) (Option.bind (xI N (nth .u8 x3 (Int.toNat x4))) fun y7 => (cond y7.1 (rec_ x3 (IntKind.wrap .i64 (x4 + 1))) (o0 x3 x4))) none) (o0 x3 x4))
def jA (N : Nat) : Nat -> (List UInt8) -> (Int) -> Option ((List UInt8) × (Int))
 | 0, _, _ => none
 | m + 1, x3, x4 => zbp N x3 x4 (jA N m) (fun v0 v1 => some (v0, v1))
def zbj (N : Nat) (p0 : (List UInt8)) : Option ((List UInt8) × Int × Bool × Unit) :=
 (Option.bind (jA N N p0 0) fun o8 => (cond (o8.2 == 0) (some ([], 0, false, ())) (cond (o8.2 == (((List.length o8.1) : Nat) : Int)) (some ([], 0, false, ())) (cond (inb o8.2 (List.length o8.1)) (cond ((nth .u8 o8.1 (Int.toNat o8.2)) != 32) (some ([], 0, false, ())) (cond ((jw 0 o8.2 (List.length o8.1)) && true) (some ((slice o8.1 0 (Int.toNat o8.2)), (IntKind.wrap .i64 (o8.2 + 1)), true, ())) none)) none))))
def jI (N : Nat) (p0 : UInt8) : Option (Bool × Unit) :=
 (cond (decide (0 < p0)) (cond (decide (p0 < 128)) (cond (p0 != 10) (some ((p0 != 13), ())) (some (false, ()))) (some (false, ()))) (some (false, ())))
def wu (N : Nat) {R : Type} (x12 : List UInt8) (x13 : Int) (x14 : List UInt8) (rec_ : (List UInt8) -> (Int) -> (List UInt8) -> Option R) (o0 : (List UInt8) -> Option R) (o1 : (List UInt8) -> (Int) -> (List UInt8) -> Option R) : Option R :=
 (cond (decide (x13 < (((List.length x12) : Nat) : Int))) (cond (inb x13 (List.length x12)) (cond ((nth .u8 x12 (Int.toNat x13)) != 34) (cond (inb x13 (List.length x12)) (cond ((nth .u8 x12 (Int.toNat x13)) == 92) (cond (decide ((((List.length x12) : Nat) : Int) <= (IntKind.wrap .i64 (x13 + 1)))) (o0 x14) (cond (inb (IntKind.wrap .i64 (x13 + 1)) (List.length x12)) (cond ((nth .u8 x12 (Int.toNat (IntKind.wrap .i64 (x13 + 1)))) != 34) (cond (inb (IntKind.wrap .i64 (x13 + 1)) (List.length x12)) (cond ((nth .u8 x12 (Int.toNat (IntKind.wrap .i64 (x13 + 1)))) != 92) (o0 x14) (cond (inb (IntKind.wrap .i64 (x13 + 1)) (List.length x12)) (Option.bind (jI N (nth .u8 x12 (Int.toNat (IntKind.wrap .i64 (x13 + 1))))) fun y19 => (cond (!y19.1) (o0 x14) (cond (inb (IntKind.wrap .i64 (x13 + 1)) (List.length x12)) (cond (Nat.blt ((List.length x14) + 1) jd) (rec_ x12 (IntKind.wrap .i64 ((IntKind.wrap .i64 (x13 + 1)) + 1)) (x14 ++ ([(nth .u8 x12 (Int.toNat (IntKind.wrap .i64 (x13 + 1))))] : List UInt8))) none) none))) none)) none) (cond (inb (IntKind.wrap .i64 (x13 + 1)) (List.length x12)) (Option.bind (jI N (nth .u8 x12 (Int.toNat (IntKind.wrap .i64 (x13 + 1))))) fun y20 => (cond (!y20.1) (o0 x14) (cond (inb (IntKind.wrap .i64 (x13 + 1)) (List.length x12)) (cond (Nat.blt ((List.length x14) + 1) jd) (rec_ x12 (IntKind.wrap .i64 ((IntKind.wrap .i64 (x13 + 1)) + 1)) (x14 ++ ([(nth .u8 x12 (Int.toNat (IntKind.wrap .i64 (x13 + 1))))] : List UInt8))) none) none))) none)) none)) (cond (inb x13 (List.length x12)) (Option.bind (jI N (nth .u8 x12 (Int.toNat x13))) fun y21 => (cond (!y21.1) (o0 x14) (cond (inb x13 (List.length x12)) (cond (Nat.blt ((List.length x14) + 1) jd) (rec_ x12 (IntKind.wrap .i64 (x13 + 1)) (x14 ++ ([(nth .u8 x12 (Int.toNat x13))] : List UInt8))) none) none))) none)) none) (o1 x12 x13 x14)) none) (o1 x12 x13 x14))
def zP (N : Nat) : Nat -> (List UInt8) -> (Int) -> (List UInt8) -> Option (((List UInt8)) ⊕ ((List UInt8) × (Int) × (List UInt8)))
 | 0, _, _, _ => none
 | m + 1, x12, x13, x14 => wu N x12 x13 x14 (zP N m) (fun v0 => some (Sum.inl v0)) (fun v0 v1 v2 => some (Sum.inr (v0, v1, v2)))
def jB (N : Nat) (p0 : (List UInt8)) (p1 : Int) : Option ((List UInt8) × Int × Bool × Unit) :=
 (cond (decide (p1 < 0)) (some ([], 0, false, ())) (cond (decide ((((List.length p0) : Nat) : Int) <= p1)) (some ([], 0, false, ())) (cond (inb p1 (List.length p0)) (cond ((nth .u8 p0 (Int.toNat p1)) != 34) (some ([], 0, false, ())) (Option.bind (zP N N p0 (IntKind.wrap .i64 (p1 + 1)) []) fun o26 => (zk o26 (fun a27 => (some ([], 0, false, ()))) (fun b28 => (cond (decide ((((List.length b28.1) : Nat) : Int) <= b28.2.1)) (some ([], 0, false, ())) (some (b28.2.2, (IntKind.wrap .i64 (b28.2.1 + 1)), true, ()))))))) none)))
def kT (N : Nat) {R : Type} (x2 : Int) (x3 : List UInt8) (rec_ : (Int) -> (List UInt8) -> Option R) (o0 : (Int) -> (List UInt8) -> Option R) : Option R :=
 (cond (decide ((10 : Int) <= x2)) (cond (jw (Int.tmod x2 (10 : Int)) (IntKind.wrap .u32 ((Int.tmod x2 (10 : Int)) + (1 : Int))) 10) (cond (decide (List.length (slice ([48, 49, 50, 51, 52, 53, 54, 55, 56, 57] : List UInt8) (Int.toNat (Int.tmod x2 (10 : Int))) (Int.toNat (IntKind.wrap .u32 ((Int.tmod x2 (10 : Int)) + (1 : Int))))) + List.length x3 < 4611686018427387904)) (rec_ (IntKind.wrap .u32 (Int.tdiv x2 (10 : Int))) ((slice ([48, 49, 50, 51, 52, 53, 54, 55, 56, 57] : List UInt8) (Int.toNat (Int.tmod x2 (10 : Int))) (Int.toNat (IntKind.wrap .u32 ((Int.tmod x2 (10 : Int)) + (1 : Int))))) ++ x3)) none) none) (o0 x2 x3))
def qd (N : Nat) : Nat -> (Int) -> (List UInt8) -> Option ((Int) × (List UInt8))
 | 0, _, _ => none
 | m + 1, x2, x3 => kT N x2 x3 (qd N m) (fun v0 v1 => some (v0, v1))
def wy (N : Nat) (p0 : Int) : Option ((List UInt8) × Unit) :=
 (Option.bind (qd N N p0 ([] : List UInt8)) fun o5 => (cond (jw o5.1 (IntKind.wrap .u32 (o5.1 + 1)) 10) (cond (decide (List.length (slice ([48, 49, 50, 51, 52, 53, 54, 55, 56, 57] : List UInt8) (Int.toNat o5.1) (Int.toNat (IntKind.wrap .u32 (o5.1 + 1)))) + List.length o5.2 < 4611686018427387904)) (some (((slice ([48, 49, 50, 51, 52, 53, 54, 55, 56, 57] : List UInt8) (Int.toNat o5.1) (Int.toNat (IntKind.wrap .u32 (o5.1 + 1)))) ++ o5.2), ())) none) none))
def xB (N : Nat) {R : Type} (x2 : List UInt8) (x3 : Int) (x4 : Int) (rec_ : (List UInt8) -> (Int) -> (Int) -> Option R) (o0 : Unit -> Option R) (o1 : (List UInt8) -> (Int) -> Option R) : Option R :=
 (cond (decide (x4 < (((List.length x2) : Nat) : Int))) (cond (inb x4 (List.length x2)) (cond (decide ((nth .u8 x2 (Int.toNat x4)) < 48)) (o0 ()) (cond (inb x4 (List.length x2)) (cond (decide (57 < (nth .u8 x2 (Int.toNat x4)))) (o0 ()) (cond (inb x4 (List.length x2)) (rec_ x2 (IntKind.wrap .u64 ((IntKind.wrap .u64 (10 * x3)) + (IntKind.wrap .u64 ((UInt8.toNat ((nth .u8 x2 (Int.toNat x4)) - 48) : Nat) : Int)))) (IntKind.wrap .i64 (x4 + 1))) none)) none)) none) (o1 x2 x3))
def qm (N : Nat) : Nat -> (List UInt8) -> (Int) -> (Int) -> Option ((Unit) ⊕ ((List UInt8) × (Int)))
 | 0, _, _, _ => none
 | m + 1, x2, x3, x4 => xB N x2 x3 x4 (qm N m) (fun _ => some (Sum.inl ())) (fun v0 v1 => some (Sum.inr (v0, v1)))
def jX (N : Nat) (p0 : (List UInt8)) : Option (Int × Bool × Unit) :=
 (cond (decide (10 < (((List.length p0) : Nat) : Int))) (some (0, false, ())) (Option.bind (qm N N p0 0 0) fun o10 => (zk o10 (fun a11 => (some (0, false, ()))) (fun b12 => (cond (decide (4294967295 < b12.2)) (some (0, false, ())) (Option.bind (wy N (IntKind.wrap .u32 b12.2)) fun y13 => (cond (y13.1 != b12.1) (some (0, false, ())) (some ((IntKind.wrap .u32 b12.2), true, ())))))))))
def wh (N : Nat) {R : Type} (x1 : List UInt8) (x2 : Int) (x3 : Int) (rec_ : (List UInt8) -> (Int) -> (Int) -> Option R) (o0 : (List UInt8) -> (Int) -> (Int) -> Option R) : Option R :=
 (cond (decide (x3 < (((List.length x1) : Nat) : Int))) (cond (inb x3 (List.length x1)) (cond ((nth .u8 x1 (Int.toNat x3)) != 125) (cond (decide ((IntKind.wrap .i64 (x3 - x2)) <= 12)) (rec_ x1 x2 (IntKind.wrap .i64 (x3 + 1))) (o0 x1 x2 x3)) (o0 x1 x2 x3)) none) (o0 x1 x2 x3))
def zM (N : Nat) : Nat -> (List UInt8) -> (Int) -> (Int) -> Option ((List UInt8) × (Int) × (Int))
 | 0, _, _, _ => none
 | m + 1, x1, x2, x3 => wh N x1 x2 x3 (zM N m) (fun v0 v1 v2 => some (v0, v1, v2))
def jk (N : Nat) (p0 : (List UInt8)) (p1 : Int) : Option ((List UInt8) × Int × Bool × Unit) :=
 (cond (decide (p1 < 0)) (some ([], 0, false, ())) (cond (decide ((((List.length p0) : Nat) : Int) <= p1)) (some ([], 0, false, ())) (cond (inb p1 (List.length p0)) (cond ((nth .u8 p0 (Int.toNat p1)) != 123) (some ([], 0, false, ())) (Option.bind (zM N N p0 p1 (IntKind.wrap .i64 (p1 + 1))) fun o5 => (cond (decide ((((List.length o5.1) : Nat) : Int) <= o5.2.2)) (some ([], 0, false, ())) (cond (inb o5.2.2 (List.length o5.1)) (cond ((nth .u8 o5.1 (Int.toNat o5.2.2)) != 125) (some ([], 0, false, ())) (cond ((jw (IntKind.wrap .i64 (o5.2.1 + 1)) o5.2.2 (List.length o5.1)) && true) (Option.bind (jX N (slice o5.1 (Int.toNat (IntKind.wrap .i64 (o5.2.1 + 1))) (Int.toNat o5.2.2))) fun y6 => (cond (!y6.2.1) (some ([], 0, false, ())) (cond (decide (65536 < y6.1)) (some ([], 0, false, ())) (cond (decide ((((List.length o5.1) : Nat) : Int) < (IntKind.wrap .i64 (o5.2.2 + 3)))) (some ([], 0, false, ())) (cond (inb (IntKind.wrap .i64 (o5.2.2 + 1)) (List.length o5.1)) (cond ((nth .u8 o5.1 (Int.toNat (IntKind.wrap .i64 (o5.2.2 + 1)))) != 13) (some ([], 0, false, ())) (cond (inb (IntKind.wrap .i64 (o5.2.2 + 2)) (List.length o5.1)) (cond ((nth .u8 o5.1 (Int.toNat (IntKind.wrap .i64 (o5.2.2 + 2)))) != 10) (some ([], 0, false, ())) (cond (decide ((IntKind.wrap .i64 ((((List.length o5.1) : Nat) : Int) - (IntKind.wrap .i64 (o5.2.2 + 3)))) < (IntKind.wrap .i64 y6.1))) (some ([], 0, false, ())) (cond ((jw (IntKind.wrap .i64 (o5.2.2 + 3)) (IntKind.wrap .i64 ((IntKind.wrap .i64 (o5.2.2 + 3)) + (IntKind.wrap .i64 y6.1))) (List.length o5.1)) && true) (cond (Nat.blt (0 + (List.length (slice o5.1 (Int.toNat (IntKind.wrap .i64 (o5.2.2 + 3))) (Int.toNat (IntKind.wrap .i64 ((IntKind.wrap .i64 (o5.2.2 + 3)) + (IntKind.wrap .i64 y6.1))))))) jd) (some (([] ++ (slice o5.1 (Int.toNat (IntKind.wrap .i64 (o5.2.2 + 3))) (Int.toNat (IntKind.wrap .i64 ((IntKind.wrap .i64 (o5.2.2 + 3)) + (IntKind.wrap .i64 y6.1)))))), (IntKind.wrap .i64 ((IntKind.wrap .i64 (o5.2.2 + 3)) + (IntKind.wrap .i64 y6.1))), true, ())) none) none))) none)) none))))) none)) none)))) none)))
def jt (N : Nat) (p0 : UInt8) : Option (Bool × Unit) :=
 (cond (decide (32 < p0)) (cond (decide (p0 < 127)) (cond (p0 != 40) (cond (p0 != 41) (cond (p0 != 34) (some ((p0 != 123), ())) (some (false, ()))) (some (false, ()))) (some (false, ()))) (some (false, ()))) (some (false, ())))
def za0 (N : Nat) {R : Type} (x3 : List UInt8) (x4 : Int) (x5 : Int) (rec_ : (List UInt8) -> (Int) -> (Int) -> Option R) (o0 : (List UInt8) -> (Int) -> (Int) -> Option R) : Option R :=
 (cond (decide (x5 < (((List.length x3) : Nat) : Int))) (cond (inb x5 (List.length x3)) (Option.bind (jt N (nth .u8 x3 (Int.toNat x5))) fun y8 => (cond y8.1 (rec_ x3 x4 (IntKind.wrap .i64 (x5 + 1))) (o0 x3 x4 x5))) none) (o0 x3 x4 x5))
def jc (N : Nat) : Nat -> (List UInt8) -> (Int) -> (Int) -> Option ((List UInt8) × (Int) × (Int))
 | 0, _, _, _ => none
 | m + 1, x3, x4, x5 => za0 N x3 x4 x5 (jc N m) (fun v0 v1 v2 => some (v0, v1, v2))
def kI (N : Nat) (p0 : (List UInt8)) (p1 : Int) : Option ((El uS1) × Int × Bool × Unit) :=
 (cond (p1 == (((List.length p0) : Nat) : Int)) (some ((0, ([], p1)), p1, true, ())) (cond (inb p1 (List.length p0)) (cond ((nth .u8 p0 (Int.toNat p1)) == 32) (some ((1, ([], p1)), (IntKind.wrap .i64 (p1 + 1)), true, ())) (cond ((nth .u8 p0 (Int.toNat p1)) == 40) (some ((2, ([], p1)), (IntKind.wrap .i64 (p1 + 1)), true, ())) (cond ((nth .u8 p0 (Int.toNat p1)) == 41) (some ((3, ([], p1)), (IntKind.wrap .i64 (p1 + 1)), true, ())) (cond ((nth .u8 p0 (Int.toNat p1)) == 34) (Option.bind (jB N p0 p1) fun y1 => (some ((5, (y1.1, p1)), y1.2.1, y1.2.2.1, ()))) (cond ((nth .u8 p0 (Int.toNat p1)) == 123) (Option.bind (jk N p0 p1) fun y2 => (some ((6, (y2.1, p1)), y2.2.1, y2.2.2.1, ()))) (Option.bind (jc N N p0 p1 p1) fun o9 => (cond ((jw o9.2.1 o9.2.2 (List.length o9.1)) && true) (some ((4, ((slice o9.1 (Int.toNat o9.2.1) (Int.toNat o9.2.2)), p1)), o9.2.2, (decide (o9.2.1 < o9.2.2)), ())) none))))))) none))
def kQ (N : Nat) {R : Type} (x10 : List UInt8) (x11 : Int) (x12 : List (El uS1)) (rec_ : (List UInt8) -> (Int) -> (List (El uS1)) -> Option R) (o0 : (Int) -> (List (El uS1)) -> Option R) (o1 : (List (El uS1)) -> Option R) : Option R :=
 (Option.bind (kI N x10 x11) fun y15 => (cond (!y15.2.2.1) (o0 x11 x12) (cond (Nat.blt ((List.length x12) + 1) jd) (cond (y15.1.1 == 0) (o1 (x12 ++ ([y15.1] : List (El uS1)))) (rec_ x10 y15.2.1 (x12 ++ ([y15.1] : List (El uS1))))) none)))
def zL (N : Nat) : Nat -> (List UInt8) -> (Int) -> (List (El uS1)) -> Option (((Int) × (List (El uS1))) ⊕ ((List (El uS1))))
 | 0, _, _, _ => none
 | m + 1, x10, x11, x12 => kQ N x10 x11 x12 (zL N m) (fun v0 v1 => some (Sum.inl (v0, v1))) (fun v0 => some (Sum.inr v0))
def j2 (N : Nat) (p0 : (List UInt8)) : Option ((List (El uS1)) × Int × Unit) :=
 (Option.bind (zL N N p0 0 []) fun o20 => (zk o20 (fun a21 => (some ([], a21.1, ()))) (fun b22 => (some (b22, (-1), ())))))
def zez (N : Nat) (p0 : Int) : Option ((List UInt8) × Unit) :=
 (cond (decide (p0 < 1)) (some ([], ())) (cond (decide (8 < p0)) (some ([], ())) (cond (inb (IntKind.wrap .i64 (p0 - 1)) 8) (some ((nth .str ([[78, 79, 79, 80], [76, 79, 71, 79, 85, 84], [67, 76, 79, 83, 69], [69, 88, 80, 85, 78, 71, 69], [83, 69, 76, 69, 67, 84], [65, 80, 80, 69, 78, 68], [70, 69, 84, 67, 72], [83, 84, 79, 82, 69]] : List (List UInt8)) (Int.toNat (IntKind.wrap .i64 (p0 - 1)))), ())) none)))
def xX (N : Nat) {R : Type} (x2 : List UInt8) (x3 : List UInt8) (x4 : Int) (rec_ : (List UInt8) -> (List UInt8) -> (Int) -> Option R) (o0 : (List UInt8) -> Option R) : Option R :=
 (cond (decide (x4 < (((List.length x2) : Nat) : Int))) (cond (inb x4 (List.length x2)) (cond (decide (97 <= (nth .u8 x2 (Int.toNat x4)))) (cond (decide ((nth .u8 x2 (Int.toNat x4)) <= 122)) (cond (decide (List.length x3 + List.length ([((nth .u8 x2 (Int.toNat x4)) - 32)] : List UInt8) < 4611686018427387904)) (rec_ x2 (x3 ++ ([((nth .u8 x2 (Int.toNat x4)) - 32)] : List UInt8)) (IntKind.wrap .i64 (x4 + 1))) none) (cond (decide (List.length x3 + List.length ([(nth .u8 x2 (Int.toNat x4))] : List UInt8) < 4611686018427387904)) (rec_ x2 (x3 ++ ([(nth .u8 x2 (Int.toNat x4))] : List UInt8)) (IntKind.wrap .i64 (x4 + 1))) none)) (cond (decide (List.length x3 + List.length ([(nth .u8 x2 (Int.toNat x4))] : List UInt8) < 4611686018427387904)) (rec_ x2 (x3 ++ ([(nth .u8 x2 (Int.toNat x4))] : List UInt8)) (IntKind.wrap .i64 (x4 + 1))) none)) none) (o0 x3))
def qI (N : Nat) : Nat -> (List UInt8) -> (List UInt8) -> (Int) -> Option ((List UInt8))
 | 0, _, _, _ => none
 | m + 1, x2, x3, x4 => xX N x2 x3 x4 (qI N m) (fun v0 => some v0)
def zi (N : Nat) (p0 : (List UInt8)) : Option ((List UInt8) × Unit) :=
 (Option.bind (qI N N p0 [] 0) fun o6 => (some (o6, ())))
def zc5 (N : Nat) {R : Type} (x6 : List UInt8) (x7 : Int) (rec_ : (List UInt8) -> (Int) -> Option R) (o0 : (Int) -> Option R) (o1 : Unit -> Option R) : Option R :=
 (cond (decide (x7 <= 8)) (Option.bind (zez N x7) fun y11 => (Option.bind (zi N x6) fun y12 => (cond (y11.1 == y12.1) (o0 x7) (rec_ x6 (IntKind.wrap .i64 (x7 + 1)))))) (o1 ()))
def zb (N : Nat) : Nat -> (List UInt8) -> (Int) -> Option (((Int)) ⊕ (Unit))
 | 0, _, _ => none
 | m + 1, x6, x7 => zc5 N x6 x7 (zb N m) (fun v0 => some (Sum.inl v0)) (fun _ => some (Sum.inr ()))
def qP (N : Nat) (p0 : (List UInt8)) : Option (Int × Unit) :=
 (Option.bind (zb N N p0 1) fun o17 => (zk o17 (fun a18 => (some (a18, ()))) (fun b19 => (some (0, ())))))
def zab (N : Nat) {R : Type} (x2 : List (El uS1)) (x3 : List UInt8) (x4 : Int) (rec_ : (List (El uS1)) -> (List UInt8) -> (Int) -> Option R) (o0 : (List UInt8) -> Option R) : Option R :=
 (cond (decide (x4 < (((List.length x2) : Nat) : Int))) (cond (inb x4 (List.length x2)) (cond (inb x4 (List.length x2)) (cond (jw (nth uS1 x2 (Int.toNat x4)).1 (IntKind.wrap .i64 ((nth uS1 x2 (Int.toNat x4)).1 + 1)) 7) (cond (decide (List.length x3 + List.length (slice ([101, 115, 40, 41, 119, 113, 108] : List UInt8) (Int.toNat (nth uS1 x2 (Int.toNat x4)).1) (Int.toNat (IntKind.wrap .i64 ((nth uS1 x2 (Int.toNat x4)).1 + 1)))) < 4611686018427387904)) (rec_ x2 (x3 ++ (slice ([101, 115, 40, 41, 119, 113, 108] : List UInt8) (Int.toNat (nth uS1 x2 (Int.toNat x4)).1) (Int.toNat (IntKind.wrap .i64 ((nth uS1 x2 (Int.toNat x4)).1 + 1))))) (IntKind.wrap .i64 (x4 + 1))) none) none) none) none) (o0 x3))
def qG (N : Nat) : Nat -> (List (El uS1)) -> (List UInt8) -> (Int) -> Option ((List UInt8))
 | 0, _, _, _ => none
 | m + 1, x2, x3, x4 => zab N x2 x3 x4 (qG N m) (fun v0 => some v0)
def k8 (N : Nat) (p0 : (List (El uS1))) : Option ((List UInt8) × Unit) :=
 (Option.bind (qG N N p0 [] 0) fun o6 => (some (o6, ())))
def kC (N : Nat) {R : Type} (x6 : Int) (x7 : Int) (x8 : List UInt8) (x9 : Int) (rec_ : (Int) -> (Int) -> (List UInt8) -> (Int) -> Option R) (o0 : (Int) -> (List UInt8) -> (Int) -> Option R) (o1 : (Int) -> (List UInt8) -> (Int) -> Option R) : Option R :=
 (cond (decide (x6 < (((List.length x8) : Nat) : Int))) (cond (inb x6 (List.length x8)) (Option.bind (wj N (nth .u8 x8 (Int.toNat x6))) fun y12 => (cond (!y12.1) (cond (inb x6 (List.length x8)) (cond ((nth .u8 x8 (Int.toNat x6)) != 93) (o0 x7 x8 x9) (rec_ (IntKind.wrap .i64 (x6 + 1)) x7 x8 x9)) none) (rec_ (IntKind.wrap .i64 (x6 + 1)) x7 x8 x9))) none) (o1 x7 x8 x9))
def z8 (N : Nat) : Nat -> (Int) -> (Int) -> (List UInt8) -> (Int) -> Option (((Int) × (List UInt8) × (Int)) ⊕ ((Int) × (List UInt8) × (Int)))
 | 0, _, _, _, _ => none
 | m + 1, x6, x7, x8, x9 => kC N x6 x7 x8 x9 (z8 N m) (fun v0 v1 v2 => some (Sum.inl (v0, v1, v2))) (fun v0 v1 v2 => some (Sum.inr (v0, v1, v2)))
def wz (N : Nat) (p0 : (El uS1)) : Option (Bool × Unit) :=
 (cond (p0.1 != 4) (cond (p0.1 == 5) (some (true, ())) (some ((p0.1 == 6), ()))) (Option.bind (z8 N N 0 p0.1 p0.2.1 p0.2.2) fun o17 => (zk o17 (fun a18 => (some (false, ()))) (fun b19 => (some (true, ()))))))
def zeo (N : Nat) (p0 : Int) : Option ((List UInt8) × Unit) :=
 (cond (p0 == 1) (some ([92, 65, 110, 115, 119, 101, 114, 101, 100], ())) (cond (p0 == 2) (some ([92, 70, 108, 97, 103, 103, 101, 100], ())) (cond (p0 == 4) (some ([92, 68, 101, 108, 101, 116, 101, 100], ())) (cond (p0 == 8) (some ([92, 83, 101, 101, 110], ())) (cond (p0 == 16) (some ([92, 68, 114, 97, 102, 116], ())) (some ([], ())))))))
def zc7 (N : Nat) {R : Type} (x8 : List UInt8) (x9 : Int) (rec_ : (List UInt8) -> (Int) -> Option R) (o0 : (Int) -> Option R) (o1 : Unit -> Option R) : Option R :=
 (cond (decide (x9 <= 16)) (Option.bind (zeo N x9) fun y14 => (Option.bind (zi N y14.1) fun y15 => (Option.bind (zi N x8) fun y16 => (cond (y15.1 == y16.1) (o0 x9) (rec_ x8 (IntKind.wrap .i64 (2 * x9))))))) (o1 ()))
def zg (N : Nat) : Nat -> (List UInt8) -> (Int) -> Option (((Int)) ⊕ (Unit))
 | 0, _, _ => none
 | m + 1, x8, x9 => zc7 N x8 x9 (zg N m) (fun v0 => some (Sum.inl v0)) (fun _ => some (Sum.inr ()))
def ky (N : Nat) (p0 : (List UInt8)) : Option (Int × Unit) :=
 (Option.bind (zg N N p0 1) fun o21 => (zk o21 (fun a22 => (some (a22, ()))) (fun b23 => (some (0, ())))))
def zbr (N : Nat) (p0 : Int) : Option ((List UInt8) × Unit) :=
 (cond (p0 == 1) (some ([70, 76, 65, 71, 83], ())) (cond (p0 == 2) (some ([85, 73, 68], ())) (cond (p0 == 4) (some ([82, 70, 67, 56, 50, 50, 46, 83, 73, 90, 69], ())) (cond (p0 == 8) (some ([66, 79, 68, 89, 46, 80, 69, 69, 75, 91, 93], ())) (cond (p0 == 16) (some ([66, 79, 68, 89, 91, 93], ())) (some ([], ())))))))
def zdu (N : Nat) {R : Type} (x6 : List UInt8) (x7 : Int) (rec_ : (List UInt8) -> (Int) -> Option R) (o0 : (Int) -> Option R) (o1 : Unit -> Option R) : Option R :=
 (cond (decide (x7 <= 16)) (Option.bind (zbr N x7) fun y11 => (Option.bind (zi N x6) fun y12 => (cond (y11.1 == y12.1) (o0 x7) (rec_ x6 (IntKind.wrap .i64 (2 * x7)))))) (o1 ()))
def zf (N : Nat) : Nat -> (List UInt8) -> (Int) -> Option (((Int)) ⊕ (Unit))
 | 0, _, _ => none
 | m + 1, x6, x7 => zdu N x6 x7 (zf N m) (fun v0 => some (Sum.inl v0)) (fun _ => some (Sum.inr ()))
def qM (N : Nat) (p0 : (List UInt8)) : Option (Int × Unit) :=
 (Option.bind (zf N N p0 1) fun o17 => (zk o17 (fun a18 => (some (a18, ()))) (fun b19 => (some (0, ())))))
def j4 (N : Nat) {R : Type} (x5 : List (El uS1)) (x6 : Bool) (x7 : Int) (x8 : Int) (rec_ : (List (El uS1)) -> (Bool) -> (Int) -> (Int) -> Option R) (o0 : Unit -> Option R) (o1 : (List (El uS1)) -> (Int) -> Option R) : Option R :=
 (cond (decide (x8 < (((List.length x5) : Nat) : Int))) (cond ((Int.tmod x8 2) == 1) (cond (inb x8 (List.length x5)) (cond ((nth uS1 x5 (Int.toNat x8)).1 != 1) (o0 ()) (rec_ x5 x6 x7 (IntKind.wrap .i64 (x8 + 1)))) none) (cond (inb x8 (List.length x5)) (cond ((nth uS1 x5 (Int.toNat x8)).1 == 4) (cond (inb x8 (List.length x5)) (Option.bind (ky N (nth uS1 x5 (Int.toNat x8)).2.1) fun y12 => (cond x6 (cond (inb x8 (List.length x5)) (Option.bind (qM N (nth uS1 x5 (Int.toNat x8)).2.1) fun y13 => (cond (y13.1 == 0) (o0 ()) (rec_ x5 x6 (k9 .or .i64 x7 y13.1) (IntKind.wrap .i64 (x8 + 1))))) none) (cond (y12.1 == 0) (o0 ()) (rec_ x5 x6 (k9 .or .i64 x7 y12.1) (IntKind.wrap .i64 (x8 + 1)))))) none) (o0 ())) none)) (o1 x5 x7))
def zG (N : Nat) : Nat -> (List (El uS1)) -> (Bool) -> (Int) -> (Int) -> Option ((Unit) ⊕ ((List (El uS1)) × (Int)))
 | 0, _, _, _, _ => none
 | m + 1, x5, x6, x7, x8 => j4 N x5 x6 x7 x8 (zG N m) (fun _ => some (Sum.inl ())) (fun v0 v1 => some (Sum.inr (v0, v1)))
def jP (N : Nat) (p0 : (List (El uS1))) (p1 : Bool) : Option (Int × Bool × Unit) :=
 (Option.bind (zG N N p0 p1 0 0) fun o18 => (zk o18 (fun a19 => (some (0, false, ()))) (fun b20 => (some (b20.2, ((Int.tmod (((List.length b20.1) : Nat) : Int) 2) == 1), ())))))
def jg (N : Nat) (p0 : (List (El uS1))) (p1 : Bool) : Option (Int × Bool × Unit) :=
 (cond (decide ((((List.length p0) : Nat) : Int) < 2)) (some (0, false, ())) (cond (inb 0 (List.length p0)) (cond ((nth uS1 p0 0).1 != 2) (some (0, false, ())) (cond (inb (IntKind.wrap .i64 ((((List.length p0) : Nat) : Int) - 1)) (List.length p0)) (cond ((nth uS1 p0 (Int.toNat (IntKind.wrap .i64 ((((List.length p0) : Nat) : Int) - 1)))).1 != 3) (some (0, false, ())) (cond ((((List.length p0) : Nat) : Int) == 2) (some (0, (!p1), ())) (cond ((jw 1 (IntKind.wrap .i64 ((((List.length p0) : Nat) : Int) - 1)) (List.length p0)) && true) (Option.bind (jP N (slice p0 1 (Int.toNat (IntKind.wrap .i64 ((((List.length p0) : Nat) : Int) - 1)))) p1) fun y1 => (some (y1.1, y1.2.1, ()))) none))) none)) none))
def qH (N : Nat) (p0 : (El uS2)) (p1 : (List (El uS1))) : Option ((El uS2) × Bool × Unit) :=
 (cond ((((List.length p1) : Nat) : Int) == 0) (some (p0, false, ())) (cond (inb (IntKind.wrap .i64 ((((List.length p1) : Nat) : Int) - 1)) (List.length p1)) (cond ((nth uS1 p1 (Int.toNat (IntKind.wrap .i64 ((((List.length p1) : Nat) : Int) - 1)))).1 != 6) (some (p0, false, ())) (cond (inb (IntKind.wrap .i64 ((((List.length p1) : Nat) : Int) - 1)) (List.length p1)) (cond (Nat.blt (List.length (nth uS1 p1 (Int.toNat (IntKind.wrap .i64 ((((List.length p1) : Nat) : Int) - 1)))).2.1) jd) (cond ((((List.length p1) : Nat) : Int) == 1) (some ((p0.1, (p0.2.1, (p0.2.2.1, (p0.2.2.2.1, (p0.2.2.2.2.1, (p0.2.2.2.2.2.1, (p0.2.2.2.2.2.2.1, (p0.2.2.2.2.2.2.2.1, (nth uS1 p1 (Int.toNat (IntKind.wrap .i64 ((((List.length p1) : Nat) : Int) - 1)))).2.1)))))))), true, ())) (cond ((jw 0 (IntKind.wrap .i64 ((((List.length p1) : Nat) : Int) - 2)) (List.length p1)) && true) (Option.bind (jg N (slice p1 0 (Int.toNat (IntKind.wrap .i64 ((((List.length p1) : Nat) : Int) - 2)))) false) fun y1 => (cond y1.2.1 (cond (inb (IntKind.wrap .i64 ((((List.length p1) : Nat) : Int) - 2)) (List.length p1)) (some ((p0.1, (p0.2.1, (p0.2.2.1, (p0.2.2.2.1, (p0.2.2.2.2.1, (p0.2.2.2.2.2.1, (p0.2.2.2.2.2.2.1, ((zaw y1.1), (nth uS1 p1 (Int.toNat (IntKind.wrap .i64 ((((List.length p1) : Nat) : Int) - 1)))).2.1)))))))), ((nth uS1 p1 (Int.toNat (IntKind.wrap .i64 ((((List.length p1) : Nat) : Int) - 2)))).1 == 1), ())) none) (some ((p0.1, (p0.2.1, (p0.2.2.1, (p0.2.2.2.1, (p0.2.2.2.2.1, (p0.2.2.2.2.2.1, (p0.2.2.2.2.2.2.1, ((zaw y1.1), (nth uS1 p1 (Int.toNat (IntKind.wrap .i64 ((((List.length p1) : Nat) : Int) - 1)))).2.1)))))))), false, ())))) none)) none) none)) none))
def j6 (N : Nat) {R : Type} (x9 : List UInt8) (x10 : UInt8) (x11 : Int) (x12 : Int) (x13 : List (List UInt8)) (rec_ : (List UInt8) -> (UInt8) -> (Int) -> (Int) -> (List (List UInt8)) -> Option R) (o0 : (List (List UInt8)) -> Option R) : Option R :=
 (cond (decide (x12 <= (((List.length x9) : Nat) : Int))) (cond (x12 == (((List.length x9) : Nat) : Int)) (cond (jw x11 x12 (List.length x9)) (cond (Nat.blt ((List.length x13) + 1) jd) (rec_ x9 x10 (IntKind.wrap .i64 (x12 + 1)) (IntKind.wrap .i64 (x12 + 1)) (x13 ++ ([(slice x9 (Int.toNat x11) (Int.toNat x12))] : List (List UInt8)))) none) none) (cond (inb x12 (List.length x9)) (cond ((nth .u8 x9 (Int.toNat x12)) == x10) (cond (jw x11 x12 (List.length x9)) (cond (Nat.blt ((List.length x13) + 1) jd) (rec_ x9 x10 (IntKind.wrap .i64 (x12 + 1)) (IntKind.wrap .i64 (x12 + 1)) (x13 ++ ([(slice x9 (Int.toNat x11) (Int.toNat x12))] : List (List UInt8)))) none) none) (rec_ x9 x10 x11 (IntKind.wrap .i64 (x12 + 1)) x13)) none)) (o0 x13))
def zT (N : Nat) : Nat -> (List UInt8) -> (UInt8) -> (Int) -> (Int) -> (List (List UInt8)) -> Option ((List (List UInt8)))
 | 0, _, _, _, _, _ => none
 | m + 1, x9, x10, x11, x12, x13 => j6 N x9 x10 x11 x12 x13 (zT N m) (fun v0 => some v0)
def wC (N : Nat) (p0 : (List UInt8)) (p1 : UInt8) : Option ((List (List UInt8)) × Unit) :=
 (Option.bind (zT N N p0 p1 0 0 []) fun o15 => (some (o15, ())))
def j1 (N : Nat) (p0 : (List UInt8)) : Option (Int × Bool × Unit) :=
 (cond (p0 == [42]) (some (0, true, ())) (Option.bind (jX N p0) fun y1 => (cond y1.2.1 (some (y1.1, (decide (0 < y1.1)), ())) (some (y1.1, false, ())))))
def xJ (N : Nat) {R : Type} (x16 : List (List UInt8)) (x17 : Int) (x18 : List (Int × Int)) (rec_ : (List (List UInt8)) -> (Int) -> (List (Int × Int)) -> Option R) (o0 : (List (Int × Int)) -> Option R) (o1 : (List (Int × Int)) -> Option R) : Option R :=
 (cond (decide (x17 < (((List.length x16) : Nat) : Int))) (cond (inb x17 (List.length x16)) (Option.bind (wC N (nth .str x16 (Int.toNat x17)) 58) fun y23 => (cond (decide (2 < (((List.length y23.1) : Nat) : Int))) (o0 x18) (cond (inb 0 (List.length y23.1)) (Option.bind (j1 N (nth .str y23.1 0)) fun y24 => (cond (inb (IntKind.wrap .i64 ((((List.length y23.1) : Nat) : Int) - 1)) (List.length y23.1)) (Option.bind (j1 N (nth .str y23.1 (Int.toNat (IntKind.wrap .i64 ((((List.length y23.1) : Nat) : Int) - 1))))) fun y25 => (cond (!y24.2.1) (o0 x18) (cond (!y25.2.1) (o0 x18) (cond (Nat.blt ((List.length x18) + 1) jd) (rec_ x16 (IntKind.wrap .i64 (x17 + 1)) (x18 ++ ([(y24.1, y25.1)] : List (Int × Int)))) none)))) none)) none))) none) (o1 x18))
def zF (N : Nat) : Nat -> (List (List UInt8)) -> (Int) -> (List (Int × Int)) -> Option (((List (Int × Int))) ⊕ ((List (Int × Int))))
 | 0, _, _, _ => none
 | m + 1, x16, x17, x18 => xJ N x16 x17 x18 (zF N m) (fun v0 => some (Sum.inl v0)) (fun v0 => some (Sum.inr v0))
def wB (N : Nat) (p0 : (List UInt8)) : Option ((List (Int × Int)) × Bool × Unit) :=
 (Option.bind (wC N p0 44) fun y1 => (Option.bind (zF N N y1.1 0 []) fun o30 => (zk o30 (fun a31 => (some ([], false, ()))) (fun b32 => (some (b32, true, ()))))))
def zah (N : Nat) (p0 : (List UInt8)) : Option (Int × Bool × Unit) :=
 (Option.bind (zi N p0) fun y1 => (cond (decide (7 < (((List.length y1.1) : Nat) : Int))) (cond (jw (IntKind.wrap .i64 ((((List.length y1.1) : Nat) : Int) - 7)) (((List.length y1.1) : Nat) : Int) (List.length y1.1)) (cond ((slice y1.1 (Int.toNat (IntKind.wrap .i64 ((((List.length y1.1) : Nat) : Int) - 7))) (Int.toNat (((List.length y1.1) : Nat) : Int))) == [46, 83, 73, 76, 69, 78, 84]) (cond (jw 0 (IntKind.wrap .i64 ((((List.length y1.1) : Nat) : Int) - 7)) (List.length y1.1)) (cond ((slice y1.1 0 (Int.toNat (IntKind.wrap .i64 ((((List.length y1.1) : Nat) : Int) - 7)))) == [70, 76, 65, 71, 83]) (some (0, true, ())) (cond ((slice y1.1 0 (Int.toNat (IntKind.wrap .i64 ((((List.length y1.1) : Nat) : Int) - 7)))) == [43, 70, 76, 65, 71, 83]) (some (1, true, ())) (cond ((slice y1.1 0 (Int.toNat (IntKind.wrap .i64 ((((List.length y1.1) : Nat) : Int) - 7)))) == [45, 70, 76, 65, 71, 83]) (some (2, true, ())) (some ((-1), false, ()))))) none) (cond (y1.1 == [70, 76, 65, 71, 83]) (some (0, false, ())) (cond (y1.1 == [43, 70, 76, 65, 71, 83]) (some (1, false, ())) (cond (y1.1 == [45, 70, 76, 65, 71, 83]) (some (2, false, ())) (some ((-1), false, ())))))) none) (cond (y1.1 == [70, 76, 65, 71, 83]) (some (0, false, ())) (cond (y1.1 == [43, 70, 76, 65, 71, 83]) (some (1, false, ())) (cond (y1.1 == [45, 70, 76, 65, 71, 83]) (some (2, false, ())) (some ((-1), false, ())))))))
def zam (N : Nat) (p0 : (List UInt8)) (p1 : (List (El uS1))) : Option ((El uS2) × Bool × Unit) :=
 (cond ((((List.length p1) : Nat) : Int) == 0) (some ((p0, (0, ([], ([], (0, (0, (false, (0, [])))))))), false, ())) (cond (inb 0 (List.length p1)) (cond ((nth uS1 p1 0).1 != 4) (some ((p0, (0, ([], ([], (0, (0, (false, (0, [])))))))), false, ())) (cond (inb 0 (List.length p1)) (Option.bind (qP N (nth uS1 p1 0).2.1) fun y1 => (cond (y1.1 == 0) (cond (decide (0 < y1.1)) (some ((p0, (y1.1, ([], ([], (0, (0, (false, (0, [])))))))), ((((List.length p1) : Nat) : Int) == 1), ())) (some ((p0, (y1.1, ([], ([], (0, (0, (false, (0, [])))))))), false, ()))) (cond (decide (y1.1 <= 4)) (cond (decide (0 < y1.1)) (some ((p0, (y1.1, ([], ([], (0, (0, (false, (0, [])))))))), ((((List.length p1) : Nat) : Int) == 1), ())) (some ((p0, (y1.1, ([], ([], (0, (0, (false, (0, [])))))))), false, ()))) (Option.bind (k8 N p1) fun y2 => (cond (decide ((((List.length p1) : Nat) : Int) < 3)) (some ((p0, (y1.1, ([], ([], (0, (0, (false, (0, [])))))))), false, ())) (cond (inb 1 (List.length y2.1)) (cond ((nth .u8 y2.1 1) != 115) (some ((p0, (y1.1, ([], ([], (0, (0, (false, (0, [])))))))), false, ())) (cond (decide (y1.1 <= 6)) (cond (inb 2 (List.length p1)) (cond (inb 2 (List.length p1)) (Option.bind (wz N (nth uS1 p1 2)) fun y3 => (cond (!y3.1) (some ((p0, (y1.1, ((nth uS1 p1 2).2.1, ([], (0, (0, (false, (0, [])))))))), false, ())) (cond (y1.1 == 5) (some ((p0, (y1.1, ((nth uS1 p1 2).2.1, ([], (0, (0, (false, (0, [])))))))), ((((List.length p1) : Nat) : Int) == 3), ())) (cond (decide ((((List.length p1) : Nat) : Int) < 4)) (some ((p0, (y1.1, ((nth uS1 p1 2).2.1, ([], (0, (0, (false, (0, [])))))))), false, ())) (cond (inb 3 (List.length y2.1)) (cond ((nth .u8 y2.1 3) != 115) (some ((p0, (y1.1, ((nth uS1 p1 2).2.1, ([], (0, (0, (false, (0, [])))))))), false, ())) (cond (zY 4 p1 && true) (Option.bind (qH N (p0, (y1.1, ((nth uS1 p1 2).2.1, ([], (0, (0, (false, (0, [])))))))) (ze p1 4)) fun y4 => (some (y4.1, y4.2.1, ()))) none)) none))))) none) none) (cond (inb 2 (List.length p1)) (Option.bind (wB N (nth uS1 p1 2).2.1) fun y5 => (cond (inb 2 (List.length p1)) (cond ((nth uS1 p1 2).1 != 4) (some ((p0, (y1.1, ([], ([], (0, (0, (false, (0, [])))))))), false, ())) (cond (!y5.2.1) (some ((p0, (y1.1, ([], ([], (0, (0, (false, (0, [])))))))), false, ())) (cond (decide ((((List.length p1) : Nat) : Int) < 5)) (some ((p0, (y1.1, ([], ([], (0, (0, (false, (0, [])))))))), false, ())) (cond (inb 3 (List.length y2.1)) (cond ((nth .u8 y2.1 3) != 115) (some ((p0, (y1.1, ([], ([], (0, (0, (false, (0, [])))))))), false, ())) (cond (y1.1 == 7) (cond (zY 4 p1 && true) (Option.bind (jg N (ze p1 4) true) fun y6 => (cond ((((List.length p1) : Nat) : Int) == 5) (cond (zY 4 p1 && true) (Option.bind (jP N (ze p1 4) true) fun y7 => (some ((p0, (y1.1, ([], (y5.1, (y7.1, (0, (false, (0, [])))))))), y7.2.1, ()))) none) (some ((p0, (y1.1, ([], (y5.1, (y6.1, (0, (false, (0, [])))))))), y6.2.1, ())))) none) (cond (inb 4 (List.length p1)) (Option.bind (zah N (nth uS1 p1 4).2.1) fun y8 => (cond (inb 4 (List.length p1)) (cond ((nth uS1 p1 4).1 != 4) (some ((p0, (y1.1, ([], (y5.1, (0, (0, (false, (0, [])))))))), false, ())) (cond (decide (y8.1 < 0)) (some ((p0, (y1.1, ([], (y5.1, (0, (0, (false, (0, [])))))))), false, ())) (cond (decide ((((List.length p1) : Nat) : Int) < 7)) (some ((p0, (y1.1, ([], (y5.1, (0, (0, (false, (0, [])))))))), false, ())) (cond (inb 5 (List.length y2.1)) (cond ((nth .u8 y2.1 5) != 115) (some ((p0, (y1.1, ([], (y5.1, (0, (0, (false, (0, [])))))))), false, ())) (cond (zY 6 p1 && true) (Option.bind (jg N (ze p1 6) false) fun y9 => (cond (!y9.2.1) (cond (zY 6 p1 && true) (Option.bind (jP N (ze p1 6) false) fun y10 => (some ((p0, (y1.1, ([], (y5.1, (0, (y8.1, (y8.2.1, ((zaw y10.1), [])))))))), y10.2.1, ()))) none) (some ((p0, (y1.1, ([], (y5.1, (0, (y8.1, (y8.2.1, ((zaw y9.1), [])))))))), y9.2.1, ())))) none)) none)))) none)) none))) none)))) none)) none))) none)))))) none)) none))
def xi (N : Nat) (p0 : (List UInt8)) : Option ((El uS2) × Bool × Unit) :=
 (Option.bind (zbj N p0) fun y1 => (cond (!y1.2.2.1) (some (([], (0, ([], ([], (0, (0, (false, (0, [])))))))), false, ())) (cond (zY y1.2.1 p0 && true) (Option.bind (j2 N (ze p0 (Int.toNat y1.2.1))) fun y2 => (cond (decide (0 <= y2.2.1)) (some ((y1.1, (0, ([], ([], (0, (0, (false, (0, [])))))))), false, ())) (cond ((jw 0 (IntKind.wrap .i64 ((((List.length y2.1) : Nat) : Int) - 1)) (List.length y2.1)) && true) (Option.bind (zam N y1.1 (slice y2.1 0 (Int.toNat (IntKind.wrap .i64 ((((List.length y2.1) : Nat) : Int) - 1))))) fun y3 => (cond (!y3.2.1) (some ((y1.1, (0, ([], ([], (0, (0, (false, (0, [])))))))), false, ())) (some (y3.1, true, ())))) none))) none)))
def xZ (N : Nat) {R : Type} (x19 : Int) (x20 : List UInt8) (x21 : Int) (x22 : List UInt8) (x23 : List (Int × Int)) (x24 : Int) (x25 : Int) (x26 : Bool) (x27 : UInt8) (x28 : List UInt8) (x29 : List UInt8) (x30 : Int) (x31 : List UInt8) (x32 : List (Int × Int)) (x33 : Int) (x34 : Int) (x35 : Bool) (x36 : UInt8) (x37 : List UInt8) (rec_ : (Int) -> (List UInt8) -> (Int) -> (List UInt8) -> (List (Int × Int)) -> (Int) -> (Int) -> (Bool) -> (UInt8) -> (List UInt8) -> (List UInt8) -> (Int) -> (List UInt8) -> (List (Int × Int)) -> (Int) -> (Int) -> (Bool) -> (UInt8) -> (List UInt8) -> Option R) (o0 : (List UInt8) -> (Int) -> (List UInt8) -> (List (Int × Int)) -> (Int) -> (Int) -> (Bool) -> (UInt8) -> (List UInt8) -> (List UInt8) -> (Int) -> (List UInt8) -> (List (Int × Int)) -> (Int) -> (Int) -> (Bool) -> (UInt8) -> (List UInt8) -> Option R) (o1 : (List UInt8) -> (Int) -> (List UInt8) -> (List (Int × Int)) -> (Int) -> (Int) -> (Bool) -> (UInt8) -> (List UInt8) -> (List UInt8) -> (Int) -> (List UInt8) -> (List (Int × Int)) -> (Int) -> (Int) -> (Bool) -> (UInt8) -> (List UInt8) -> Option R) : Option R :=
 (cond (decide (x19 < (((List.length x23) : Nat) : Int))) (cond (inb x19 (List.length x23)) (cond (inb x19 (List.length x32)) (cond (!(((nth (.pair (.int .u32) (.int .u32)) x23 (Int.toNat x19)).1 == (nth (.pair (.int .u32) (.int .u32)) x32 (Int.toNat x19)).1) && (((nth (.pair (.int .u32) (.int .u32)) x23 (Int.toNat x19)).2 == (nth (.pair (.int .u32) (.int .u32)) x32 (Int.toNat x19)).2) && true))) (o0 x20 x21 x22 x23 x24 x25 x26 x27 x28 x29 x30 x31 x32 x33 x34 x35 x36 x37) (rec_ (IntKind.wrap .i64 (x19 + 1)) x20 x21 x22 x23 x24 x25 x26 x27 x28 x29 x30 x31 x32 x33 x34 x35 x36 x37)) none) none) (o1 x20 x21 x22 x23 x24 x25 x26 x27 x28 x29 x30 x31 x32 x33 x34 x35 x36 x37))
def qJ (N : Nat) : Nat -> (Int) -> (List UInt8) -> (Int) -> (List UInt8) -> (List (Int × Int)) -> (Int) -> (Int) -> (Bool) -> (UInt8) -> (List UInt8) -> (List UInt8) -> (Int) -> (List UInt8) -> (List (Int × Int)) -> (Int) -> (Int) -> (Bool) -> (UInt8) -> (List UInt8) -> Option (((List UInt8) × (Int) × (List UInt8) × (List (Int × Int)) × (Int) × (Int) × (Bool) × (UInt8) × (List UInt8) × (List UInt8) × (Int) × (List UInt8) × (List (Int × Int)) × (Int) × (Int) × (Bool) × (UInt8) × (List UInt8)) ⊕ ((List UInt8) × (Int) × (List UInt8) × (List (Int × Int)) × (Int) × (Int) × (Bool) × (UInt8) × (List UInt8) × (List UInt8) × (Int) × (List UInt8) × (List (Int × Int)) × (Int) × (Int) × (Bool) × (UInt8) × (List UInt8)))
 | 0, _, _, _, _, _, _, _, _, _, _, _, _, _, _, _, _, _, _, _ => none
 | m + 1, x19, x20, x21, x22, x23, x24, x25, x26, x27, x28, x29, x30, x31, x32, x33, x34, x35, x36, x37 => xZ N x19 x20 x21 x22 x23 x24 x25 x26 x27 x28 x29 x30 x31 x32 x33 x34 x35 x36 x37 (qJ N m) (fun v0 v1 v2 v3 v4 v5 v6 v7 v8 v9 v10 v11 v12 v13 v14 v15 v16 v17 => some (Sum.inl (v0, v1, v2, v3, v4, v5, v6, v7, v8, v9, v10, v11, v12, v13, v14, v15, v16, v17))) (fun v0 v1 v2 v3 v4 v5 v6 v7 v8 v9 v10 v11 v12 v13 v14 v15 v16 v17 => some (Sum.inr (v0, v1, v2, v3, v4, v5, v6, v7, v8, v9, v10, v11, v12, v13, v14, v15, v16, v17)))
def xU (N : Nat) (p0 : (El uS2)) (p1 : (El uS2)) : Option (Bool × Unit) :=
 (cond ((((List.length p0.2.2.2.1) : Nat) : Int) != (((List.length p1.2.2.2.1) : Nat) : Int)) (some (false, ())) (cond (p0.2.2.2.2.2.2.2.2 != p1.2.2.2.2.2.2.2.2) (some (false, ())) (Option.bind (qJ N N 0 p0.1 p0.2.1 p0.2.2.1 p0.2.2.2.1 p0.2.2.2.2.1 p0.2.2.2.2.2.1 p0.2.2.2.2.2.2.1 p0.2.2.2.2.2.2.2.1 p0.2.2.2.2.2.2.2.2 p1.1 p1.2.1 p1.2.2.1 p1.2.2.2.1 p1.2.2.2.2.1 p1.2.2.2.2.2.1 p1.2.2.2.2.2.2.1 p1.2.2.2.2.2.2.2.1 p1.2.2.2.2.2.2.2.2) fun o43 => (zk o43 (fun a44 => (some (false, ()))) (fun b45 => (cond (b45.1 == b45.2.2.2.2.2.2.2.2.2.1) (cond (b45.2.1 == b45.2.2.2.2.2.2.2.2.2.2.1) (cond (b45.2.2.1 == b45.2.2.2.2.2.2.2.2.2.2.2.1) (cond (b45.2.2.2.2.1 == b45.2.2.2.2.2.2.2.2.2.2.2.2.2.1) (cond (b45.2.2.2.2.2.1 == b45.2.2.2.2.2.2.2.2.2.2.2.2.2.2.1) (cond (b45.2.2.2.2.2.2.1 == b45.2.2.2.2.2.2.2.2.2.2.2.2.2.2.2.1) (some ((b45.2.2.2.2.2.2.2.1 == b45.2.2.2.2.2.2.2.2.2.2.2.2.2.2.2.2.1), ())) (some (false, ()))) (some (false, ()))) (some (false, ()))) (some (false, ()))) (some (false, ()))) (some (false, ()))))))))
def jS (N : Nat) {R : Type} (x8 : List UInt8) (x9 : List (El uS1)) (x10 : Int) (x11 : Int) (rec_ : (List UInt8) -> (List (El uS1)) -> (Int) -> (Int) -> Option R) (o0 : (Bool) -> Option R) (o1 : (List UInt8) -> Option R) : Option R :=
 (cond (decide (x11 < x10)) (cond (inb x11 (List.length x9)) (cond (decide (4 < (nth uS1 x9 (Int.toNat x11)).1)) (Option.bind (some (true, ())) fun y14 => (o0 y14.1)) (rec_ x8 x9 x10 (IntKind.wrap .i64 (x11 + 1)))) none) (o1 x8))
def zJ (N : Nat) : Nat -> (List UInt8) -> (List (El uS1)) -> (Int) -> (Int) -> Option (((Bool)) ⊕ ((List UInt8)))
 | 0, _, _, _, _ => none
 | m + 1, x8, x9, x10, x11 => jS N x8 x9 x10 x11 (zJ N m) (fun v0 => some (Sum.inl v0)) (fun v0 => some (Sum.inr v0))
def zW (N : Nat) (p0 : (List UInt8)) : Option (Bool × Unit) :=
 (cond ((jw 0 (if 2000 < (((List.length p0) : Nat) : Int) then 2000 else (((List.length p0) : Nat) : Int)) (List.length p0)) && true) (Option.bind (j2 N (slice p0 0 (Int.toNat (if 2000 < (((List.length p0) : Nat) : Int) then 2000 else (((List.length p0) : Nat) : Int))))) fun y1 => (cond (decide (2000 < (((List.length p0) : Nat) : Int))) (Option.bind (some (true, ())) fun y2 => (some (y2.1, ()))) (cond (decide (0 <= y1.2.1)) (Option.bind (some (true, ())) fun y3 => (some (y3.1, ()))) (Option.bind (zJ N N p0 y1.1 (((List.length y1.1) : Nat) : Int) 0) fun o19 => (zk o19 (fun a20 => (some (a20, ()))) (fun b21 => (Option.bind (xi N b21) fun y22 => (Option.bind (zi N b21) fun y23 => (cond (Nat.blt (List.length y23.1) jd) (Option.bind (wG N y23.1) fun y24 => (Option.bind (zi N y22.1.1) fun y25 => (Option.bind (zi N y22.1.2.2.1) fun y26 => (Option.bind (some (true, ())) fun y27 => (cond y27.1 (cond (y22.2.1 == y24.2.1) (Option.bind (xU N (y25.1, (y22.1.2.1, (y26.1, y22.1.2.2.2))) y24.1) fun y28 => (some (y28.1, ()))) (some (false, ()))) (some (false, ()))))))) none))))))))) none)
end Go.Proofs.Model
namespace Go.Sx
open Go Go.Gx Go.Mx
theorem wri {x : Int} (h : -9223372036854775808 <= x) (h' : x <= 9223372036854775807) : IntKind.wrap .i64 x = x := by
 simp [IntKind.wrap, IntKind.bits, IntKind.signed]; omega
theorem zX {i n : Nat} (h : i < n) : inb (i : Int) n = true := by
 unfold inb; simp; omega
theorem qT {a b n : Nat} (h : a <= b) (h' : b <= n) : jw (a : Int) (b : Int) n = true := by
 unfold jw; simp; omega
theorem jK {u : U} {l : List (El u)} {i : Nat} (h : i < l.length) : nth u l i = l[i] := by
 unfold nth; rw [List.getD_eq_getElem?_getD, List.getElem?_eq_getElem h]; rfl
theorem drop_one {α : Type} {l : List α} {i : Nat} (h : i < l.length) : l.drop i = l[i] :: l.drop (i + 1) := List.drop_eq_getElem_cons h
theorem zhE {i n : Nat} (h : i < n) : decide ((i : Int) < (n : Int)) = true := by simp; omega
theorem zhF {i n : Nat} (h : ¬ i < n) : decide ((i : Int) < (n : Int)) = false := by simp; omega
theorem jz {α : Type} {l : List α} {n : Nat} : slice l 0 n = l.take n := by unfold slice; simp
theorem xu {α : Type} {l : List α} {a : Nat} : slice l a l.length = l.drop a := by
 unfold slice; rw [List.take_of_length_le]; rw [List.length_drop]; exact Nat.le_refl _
section
variable {u v : U} (hS : ∀ a b : El u, zlR u a b = true ↔ a = b)
include hS
end
end Go.Sx
namespace Go.Proofs.Model
open Go Go.Gx Go.Mx Go.Sx
theorem j0 {p : UInt8 -> Bool} (h : ((List.range 256).all fun n => p (UInt8.ofNat n)) = true) (c : UInt8) : p c = true := by
 rw [List.all_eq_true] at h
 have := h c.toNat (List.mem_range.2 c.toNat_lt)
 rwa [UInt8.ofNat_toNat] at this
def bOf (o : Option (Bool × Unit)) : Bool := match o with
 | some (b, _) => b
 | none => false
def zfX (c : UInt8) : Bool := bOf (wj 0 c)
def qp (c : UInt8) : Bool := bOf (xI 0 c)
def zdB (c : UInt8) : Bool := bOf (jI 0 c)
def ql (c : UInt8) : Bool := bOf (jt 0 c)
def isB (o : Option (Bool × Unit)) (b : Bool) : Bool := match o with
 | some (x, _) => x == b
 | none => false
theorem zeL {o : Option (Bool × Unit)} {b : Bool} (h : isB o b = true) : o = some (b, ()) := by
 unfold isB at h
 split at h
 ·rename_i x u; rw [beq_iff_eq] at h; subst h; rfl
 ·cases h
theorem zs9 (N : Nat) (c : UInt8) : wj N c = some (zfX c, ()) := zeL (j0 (p := fun c => isB (wj 0 c) (zfX c)) (by kernel_rfl) c)
theorem zue (N : Nat) (c : UInt8) : zb6 N c = some (qp c, ()) := zeL (j0 (p := fun c => isB (zb6 0 c) (qp c)) (by kernel_rfl) c)
theorem zuO (N : Nat) (c : UInt8) : xI N c = some (qp c, ()) := zeL (j0 (p := fun c => isB (xI 0 c) (qp c)) (by kernel_rfl) c)
theorem zsQ (N : Nat) (c : UInt8) : wZ N c = some (zdB c, ()) := zeL (j0 (p := fun c => isB (wZ 0 c) (zdB c)) (by kernel_rfl) c)
theorem zsl (N : Nat) (c : UInt8) : jI N c = some (zdB c, ()) := zeL (j0 (p := fun c => isB (jI 0 c) (zdB c)) (by kernel_rfl) c)
theorem zta (N : Nat) (c : UInt8) : kg N c = some (ql c, ()) := zeL (j0 (p := fun c => isB (kg 0 c) (ql c)) (by kernel_rfl) c)
theorem ztn (N : Nat) (c : UInt8) : jt N c = some (ql c, ()) := zeL (j0 (p := fun c => isB (jt 0 c) (ql c)) (by kernel_rfl) c)
theorem zuS (N : Nat) (c : UInt8) : zbd N c = some (zfX c, ()) := zeL (j0 (p := fun c => isB (zbd 0 c) (zfX c)) (by kernel_rfl) c)
def run (p : UInt8 -> Bool) : List UInt8 -> Nat
 | [] => 0
 | c :: l => if p c then run p l + 1 else 0
theorem zgD (p : UInt8 -> Bool) : ∀ l : List UInt8, run p l <= l.length
 | [] => Nat.le_refl _
 | c :: l => by
  unfold run
  split
  ·have := zgD p l; simp; omega
  ·simp
theorem zfh (p : UInt8 -> Bool) : ∀ b : List UInt8, (b.take (run p b)).all p = true
 | [] => rfl
 | c :: l => by
  unfold run
  cases h : p c with
  | true => simpa [h] using zfh p l
  | false => simp
theorem zc1 {p : UInt8 -> Bool} {c : UInt8} (hp : p c = false) : ∀ (l : List UInt8) (k : Nat), run p l < l.length -> l[run p l]? = some c -> jm c l k = ((k + run p l : Nat) : Int)
 | [], k, h, _ => by simp [run] at h
 | x :: l, k, h, hc => by
  unfold run at h hc |-
  cases hx : p x with
  | true =>
   simp only [hx, if_true] at h hc |-
   have hne : (x == c) = false := by
    cases e : x == c with
    | false => rfl
    | true => rw [beq_iff_eq] at e; subst e; rw [hp] at hx; cases hx
   have := zc1 hp l (k + 1) (by simpa using h) (by simpa using hc)
   simp only [jm, hne, Bool.false_eq_true, if_false, this]
   congr 1; omega
  | false =>
   simp only [hx, Bool.false_eq_true, if_false] at h hc |-
   simp only [List.getElem?_cons_zero, Option.some.injEq] at hc
   subst hc
   simp [jm]
theorem zi6 {p : UInt8 -> Bool} {c : UInt8} (hp : p c = false) : ∀ (l : List UInt8) (k : Nat), jm c l k = -1 \/ ∃ i, jm c l k = ((k + i : Nat) : Int) /\ i < l.length /\ l[i]? = some c /\ ((l.take i).all p = true -> run p l = i)
 | [], k => .inl rfl
 | x :: l, k => by
  simp only [jm]
  cases e : x == c with
  | true =>
   rw [beq_iff_eq] at e; subst e
   exact .inr ⟨0, by simp, by simp, rfl, fun _ => by simp [run, hp]⟩
  | false =>
   simp only [Bool.false_eq_true, if_false]
   rcases zi6 hp l (k + 1) with h | ⟨i, h1, h2, h3, h4⟩
   ·exact .inl h
   ·refine .inr ⟨i + 1, by rw [h1]; congr 1; omega, by simpa using h2, by simpa using h3, fun h => ?_⟩
    simp only [List.take_succ_cons, List.all_cons, Bool.and_eq_true] at h
    simp [run, h.1, h4 h.2]
theorem ztX (N : Nat) (s : List UInt8) (hs : s.length <= 100000) : ∀ (m i : Nat), i <= s.length -> s.length < m + i ->
  qY N m s (s.length : Int) (i : Int) = some (if (s.drop i).all qp = true then Sum.inr () else Sum.inl ())
 | 0, i, h, h' => by omega
 | m + 1, i, h, h' => by
  unfold qY zaR
  by_cases hi : i < s.length
  ·simp only [zhE hi, cond_true, zX hi, Int.toNat_natCast, jK (u := .u8) hi, zue, Option.bind_some, drop_one hi, List.all_cons]
   cases hc : qp s[i] with
   | true =>
    simp only [Bool.not_true, cond_false, Bool.true_and]
    rw [wri (by omega) (by omega), show ((i : Int) + 1) = ((i + 1 : Nat) : Int) by omega]
    exact ztX N s hs m (i + 1) (by omega) (by omega)
   | false => simp
  ·simp only [zhF hi, cond_false]
   rw [List.drop_eq_nil_of_le (by omega)]
   simp
theorem zsf (N : Nat) (s : List UInt8) (hs : s.length <= 100000) : ∀ (m i : Nat), i <= s.length -> s.length < m + i ->
  jA N m s (i : Int) = some (s, ((i + run qp (s.drop i) : Nat) : Int))
 | 0, i, h, h' => by omega
 | m + 1, i, h, h' => by
  unfold jA zbp
  by_cases hi : i < s.length
  ·simp only [zhE hi, cond_true, zX hi, Int.toNat_natCast, jK (u := .u8) hi, zuO, Option.bind_some, drop_one hi, run]
   cases hc : qp s[i] with
   | true =>
    simp only [cond_true, if_true]
    rw [wri (by omega) (by omega), show ((i : Int) + 1) = ((i + 1 : Nat) : Int) by omega, zsf N s hs m (i + 1) (by omega) (by omega)]
    congr 3; omega
   | false => simp
  ·simp only [zhF hi, cond_false]
   rw [List.drop_eq_nil_of_le (by omega)]
   simp [run]
def zrr (b : List UInt8) : Option ((List UInt8) × Int × Bool × Unit) := some (if 0 < run qp b /\ b[run qp b]? = some 32 then (b.take (run qp b), ((run qp b + 1 : Nat) : Int), true, ()) else ([], 0, false, ()))
theorem zqZ (N : Nat) (b : List UInt8) (hb : b.length <= 100000) (hN : b.length < N) : zbj N b = zrr b := by
 unfold zbj zrr
 have h0 := zsf N b hb N 0 (by omega) (by omega)
 simp only [List.drop_zero, Nat.zero_add] at h0
 rw [show ((0 : Nat) : Int) = (0 : Int) from rfl] at h0
 rw [h0]
 have hle := zgD qp b
 generalize run qp b = i at hle |-
 simp only [Option.bind_some]
 by_cases h1 : i = 0
 ·subst h1; simp
 ·have e1 : (((i : Nat) : Int) == (0 : Int)) = false := by simp; omega
  simp only [e1, cond_false]
  by_cases h2 : i = b.length
  ·subst h2; simp
  ·have hi : i < b.length := by omega
   have e2 : (((i : Nat) : Int) == ((b.length : Nat) : Int)) = false := by simp; omega
   simp only [e2, cond_false, zX hi, cond_true, Int.toNat_natCast, jK (u := .u8) hi]
   have e3 : b[i]? = some b[i] := List.getElem?_eq_getElem hi
   cases hc : b[i] != (32 : UInt8) with
   | true =>
    have : ¬ b[i] = 32 := by simpa using hc
    simp only [cond_true, e3, Option.some.injEq, this, and_false, if_false]
   | false =>
    have : b[i] = 32 := by simpa using hc
    have e4 := qT (a := 0) (b := i) (n := b.length) (by omega) (by omega)
    rw [show ((0 : Nat) : Int) = (0 : Int) from rfl] at e4
    simp only [cond_false, e4, Bool.true_and, cond_true, jz, e3, this]
    rw [wri (by omega) (by omega), if_pos ⟨by omega, trivial⟩]
    congr 2
theorem zff : qp 32 = false := by kernel_rfl
theorem zow (N : Nat) (b : List UInt8) (hb : b.length <= 100000) (hN : b.length < N) : zbe N b = zrr b := by
 unfold zbe zrr qX
 simp only [Option.bind_some]
 rcases zi6 zff b 0 with h | ⟨i, h1, h2, h3, h4⟩
 ·rw [h]
  simp only [show decide ((-1 : Int) < 1) = true from rfl, cond_true]
  rw [if_neg]
  intro ⟨h1, h2⟩
  have hlt := (List.getElem?_eq_some_iff.1 h2).1
  rw [zc1 zff b 0 hlt h2] at h
  omega
 ·rw [h1, Nat.zero_add]
  by_cases hi : i = 0
  ·subst hi
   simp only [show decide (((0 : Nat) : Int) < 1) = true from rfl, cond_true]
   rw [if_neg]
   intro ⟨h5, h6⟩
   have hlt := (List.getElem?_eq_some_iff.1 h6).1
   have := zc1 zff b 0 hlt h6
   rw [h1] at this; omega
  ·have e1 : decide (((i : Nat) : Int) < 1) = false := by simp; omega
   have e4 := qT (a := 0) (b := i) (n := b.length) (by omega) (by omega)
   rw [show ((0 : Nat) : Int) = (0 : Int) from rfl] at e4
   simp only [e1, cond_false, e4, Bool.true_and, cond_true, Int.toNat_natCast, jz]
   have hl : (b.take i).length = i := by rw [List.length_take]; omega
   have e5 : ((b.take i) != ([] : List UInt8)) = true := by
    simp only [bne_iff_ne, ne_eq]
    intro e; rw [e] at hl; simp at hl; omega
   simp only [e5, cond_true]
   have := ztX N (b.take i) (by omega) N 0 (by omega) (by omega)
   rw [show ((0 : Nat) : Int) = (0 : Int) from rfl, List.drop_zero] at this
   rw [this]
   simp only [Option.bind_some]
   cases ha : (b.take i).all qp with
   | true =>
    simp only [if_true, zk]
    have hr := h4 ha
    rw [hr, if_pos ⟨by omega, h3⟩, wri (by omega) (by omega)]
    congr 2
   | false =>
    simp only [Bool.false_eq_true, if_false, zk]
    rw [if_neg]
    intro ⟨h5, h6⟩
    have hlt := (List.getElem?_eq_some_iff.1 h6).1
    have hf := zc1 zff b 0 hlt h6
    rw [h1] at hf
    have hri : run qp b = i := by omega
    have := zfh qp b
    rw [hri] at this
    rw [this] at ha; cases ha
def sq : List UInt8 -> Option (List UInt8 × Nat)
 | [] => none
 | c :: l => if c = 34 then some ([], 1) else if c = 92 then match l with
  | [] => none
  | d :: l => if d = 34 \/ d = 92 then match sq l with
   | some (o, n) => some (d :: o, n + 2)
   | none => none
   else none
  else if zdB c = true then match sq l with
   | some (o, n) => some (c :: o, n + 1)
   | none => none
  else none
theorem zkV : ∀ (l : List UInt8) {o : List UInt8} {n : Nat}, sq l = some (o, n) -> n <= l.length /\ o.length < n
 | [], o, n, h => by cases h
 | c :: l, o, n, h => by
  unfold sq at h
  split at h
  ·cases h; simp
  ·split at h
   ·split at h
    ·cases h
    ·rename_i d l'
     split at h
     ·split at h
      ·rename_i o' n' h'
       have := zkV l' h'
       cases h
       simp; omega
      ·cases h
     ·cases h
   ·split at h
    ·split at h
     ·rename_i o' n' h'
      have := zkV l h'
      cases h
      simp; omega
     ·cases h
    ·cases h
theorem zbB {n : Nat} (h : n <= 200000) : Nat.blt n jd = true := by
 rw [Nat.blt_eq]; unfold jd; omega
theorem zkF : zdB 34 = true := by kernel_rfl
theorem zky : zdB 92 = true := by kernel_rfl
def QP (b out : List UInt8) (i : Nat) (o : Option (Bool × List UInt8 × Int × List UInt8)) : Prop := match sq (b.drop i) with
 | some (r, n) => o = some (true, b, ((i + n : Nat) : Int), out ++ r)
 | none => ∃ a o', o = some (false, b, a, o')
theorem ztr (N : Nat) (b : List UInt8) (hb : b.length <= 100000) : ∀ (m i : Nat) (out : List UInt8), i <= b.length -> out.length <= i -> b.length < m + i -> QP b out i (zO N m b (i : Int) out)
 | 0, i, out, h, ho, h' => by omega
 | m + 1, i, out, h, ho, h' => by
  unfold zO wc
  have d0 : decide ((i : Int) < 0) = false := by simp
  by_cases hi : i < b.length
  ·have d1 : decide (((b.length : Nat) : Int) <= (i : Int)) = false := by simp; omega
   have w1 : IntKind.wrap .i64 ((i : Int) + 1) = ((i + 1 : Nat) : Int) := by rw [wri (by omega) (by omega)]; omega
   have w2 : IntKind.wrap .i64 (((i + 1 : Nat) : Int) - 1) = (i : Int) := by rw [wri (by omega) (by omega)]; omega
   simp only [d0, d1, cond_false, w1, w2, zX hi, cond_true, Int.toNat_natCast, jK (u := .u8) hi]
   unfold QP
   rw [drop_one hi]
   unfold sq
   cases hc : b[i] == (34 : UInt8) with
   | true =>
    rw [beq_iff_eq] at hc
    simp [hc]
   | false =>
    have hc' : ¬ b[i] = 34 := by simpa using hc
    simp only [cond_false, hc', if_false]
    cases hd : b[i] == (92 : UInt8) with
    | true =>
     have hd' : b[i] = 92 := by simpa using hd
     have d2 : decide (((i + 1 : Nat) : Int) < 0) = false := by simp; omega
     simp only [cond_true, hd', if_true, d2, cond_false]
     by_cases hi2 : i + 1 < b.length
     ·have d3 : decide (((b.length : Nat) : Int) <= ((i + 1 : Nat) : Int)) = false := by simp; omega
      have w3 : IntKind.wrap .i64 (((i + 1 : Nat) : Int) + 1) = ((i + 2 : Nat) : Int) := by rw [wri (by omega) (by omega)]; omega
      have w4 : IntKind.wrap .i64 (((i + 2 : Nat) : Int) - 1) = ((i + 1 : Nat) : Int) := by rw [wri (by omega) (by omega)]; omega
      simp only [d3, cond_false, w3, w4, zX hi2, cond_true, Int.toNat_natCast, jK (u := .u8) hi2, zsQ, Option.bind_some, zbB (show out.length + 1 <= 200000 by omega)]
      have ih := ztr N b hb m (i + 2) (out ++ [b[i + 1]]) (by omega) (by simp; omega) (by omega)
      unfold QP at ih
      rw [drop_one hi2]
      simp only
      cases he : b[i + 1] != (34 : UInt8) with
      | true =>
       have he' : ¬ b[i + 1] = 34 := by simpa using he
       cases hf : b[i + 1] != (92 : UInt8) with
       | true =>
        have hf' : ¬ b[i + 1] = 92 := by simpa using hf
        simp only [cond_true, he', hf', or_self, if_false]
        exact ⟨_, _, rfl⟩
       | false =>
        have hf' : b[i + 1] = 92 := by simpa using hf
        rw [hf'] at ih
        simp only [cond_true, cond_false, hf', or_true, if_true, zky, Bool.not_true]
        split at ih
        ·rename_i r n hr
         (first | simp only [hr] | skip)
         rw [ih]
         simp only [List.append_assoc, List.cons_append, List.nil_append, Option.some.injEq, Prod.mk.injEq, true_and, and_true]
         omega
        ·rename_i hr
         (first | simp only [hr] | skip)
         exact ih
      | false =>
       have he' : b[i + 1] = 34 := by simpa using he
       rw [he'] at ih
       simp only [cond_false, he', true_or, if_true, zkF, Bool.not_true]
       split at ih
       ·rename_i r n hr
        (first | simp only [hr] | skip)
        rw [ih]
        simp only [List.append_assoc, List.cons_append, List.nil_append, Option.some.injEq, Prod.mk.injEq, true_and, and_true]
        omega
       ·rename_i hr
        (first | simp only [hr] | skip)
        exact ih
     ·have d3 : decide (((b.length : Nat) : Int) <= ((i + 1 : Nat) : Int)) = true := by simp; omega
      rw [List.drop_eq_nil_of_le (by omega)]
      simp only [d3, cond_true]
      exact ⟨_, _, rfl⟩
    | false =>
     have hd' : ¬ b[i] = 92 := by simpa using hd
     simp only [cond_false, hd', if_false, zsQ, Option.bind_some, zbB (show out.length + 1 <= 200000 by omega), cond_true]
     cases ht : zdB b[i] with
     | true =>
      simp only [Bool.not_true, cond_false, if_true]
      have ih := ztr N b hb m (i + 1) (out ++ [b[i]]) (by omega) (by simp; omega) (by omega)
      unfold QP at ih
      split at ih
      ·rename_i r n hr
       (first | simp only [hr] | skip)
       rw [ih]
       simp only [List.append_assoc, List.cons_append, List.nil_append, Option.some.injEq, Prod.mk.injEq, true_and, and_true]
       omega
      ·rename_i hr
       (first | simp only [hr] | skip)
       exact ih
     | false =>
      simp only [Bool.not_false, cond_true, Bool.false_eq_true, if_false]
      exact ⟨_, _, rfl⟩
  ·have d1 : decide (((b.length : Nat) : Int) <= (i : Int)) = true := by simp; omega
   simp only [d0, d1, cond_false, cond_true]
   unfold QP
   rw [List.drop_eq_nil_of_le (by omega)]
   exact ⟨_, _, rfl⟩
def RQ (b out : List UInt8) (i : Nat) (o : Option (List UInt8 ⊕ (List UInt8 × Int × List UInt8))) : Prop := match sq (b.drop i) with
 | some (r, n) => ∃ k : Nat, i + n = k + 1 /\ k < b.length /\ o = some (Sum.inr (b, (k : Int), out ++ r))
 | none => (∃ o', o = some (Sum.inl o')) \/ ∃ o' k, ((b.length : Nat) : Int) <= k /\ o = some (Sum.inr (b, k, o'))
theorem zqu (N : Nat) (b : List UInt8) (hb : b.length <= 100000) : ∀ (m i : Nat) (out : List UInt8), i <= b.length -> out.length <= i -> b.length < m + i -> RQ b out i (zP N m b (i : Int) out)
 | 0, i, out, h, ho, h' => by omega
 | m + 1, i, out, h, ho, h' => by
  unfold zP wu
  by_cases hi : i < b.length
  ·have w1 : IntKind.wrap .i64 ((i : Int) + 1) = ((i + 1 : Nat) : Int) := by rw [wri (by omega) (by omega)]; omega
   simp only [zhE hi, w1, zX hi, cond_true, Int.toNat_natCast, jK (u := .u8) hi]
   unfold RQ
   rw [drop_one hi]
   unfold sq
   cases hc : b[i] != (34 : UInt8) with
   | false =>
    have hc' : b[i] = 34 := by simpa using hc
    simp only [cond_false, hc', if_true]
    exact ⟨i, rfl, hi, by simp⟩
   | true =>
    have hc' : ¬ b[i] = 34 := by simpa using hc
    simp only [cond_true, hc', if_false]
    cases hd : b[i] == (92 : UInt8) with
    | true =>
     have hd' : b[i] = 92 := by simpa using hd
     simp only [cond_true, hd', if_true]
     by_cases hi2 : i + 1 < b.length
     ·have d3 : decide (((b.length : Nat) : Int) <= ((i + 1 : Nat) : Int)) = false := by simp; omega
      have w3 : IntKind.wrap .i64 (((i + 1 : Nat) : Int) + 1) = ((i + 2 : Nat) : Int) := by rw [wri (by omega) (by omega)]; omega
      simp only [d3, cond_false, w3, zX hi2, cond_true, jK (u := .u8) hi2, zsl, Option.bind_some, zbB (show out.length + 1 <= 200000 by omega)]
      have ih := zqu N b hb m (i + 2) (out ++ [b[i + 1]]) (by omega) (by simp; omega) (by omega)
      unfold RQ at ih
      rw [drop_one hi2]
      simp only
      cases he : b[i + 1] != (34 : UInt8) with
      | true =>
       have he' : ¬ b[i + 1] = 34 := by simpa using he
       cases hf : b[i + 1] != (92 : UInt8) with
       | true =>
        have hf' : ¬ b[i + 1] = 92 := by simpa using hf
        simp only [cond_true, he', hf', or_self, if_false]
        exact .inl ⟨_, rfl⟩
       | false =>
        have hf' : b[i + 1] = 92 := by simpa using hf
        rw [hf'] at ih
        simp only [cond_true, cond_false, hf', or_true, if_true, zky, Bool.not_true]
        split at ih
        ·rename_i r n hr
         (first | simp only [hr] | skip)
         obtain ⟨k, h1, h2, h3⟩ := ih
         refine ⟨k, by omega, h2, ?_⟩
         rw [h3]
         simp only [List.append_assoc, List.cons_append, List.nil_append]
        ·rename_i hr
         (first | simp only [hr] | skip)
         exact ih
      | false =>
       have he' : b[i + 1] = 34 := by simpa using he
       rw [he'] at ih
       simp only [cond_false, he', true_or, if_true, zkF, Bool.not_true]
       split at ih
       ·rename_i r n hr
        (first | simp only [hr] | skip)
        obtain ⟨k, h1, h2, h3⟩ := ih
        refine ⟨k, by omega, h2, ?_⟩
        rw [h3]
        simp only [List.append_assoc, List.cons_append, List.nil_append]
       ·rename_i hr
        (first | simp only [hr] | skip)
        exact ih
     ·have d3 : decide (((b.length : Nat) : Int) <= ((i + 1 : Nat) : Int)) = true := by simp; omega
      rw [List.drop_eq_nil_of_le (by omega)]
      simp only [d3, cond_true]
      exact .inl ⟨_, rfl⟩
    | false =>
     have hd' : ¬ b[i] = 92 := by simpa using hd
     simp only [cond_false, hd', if_false, zsl, Option.bind_some, zbB (show out.length + 1 <= 200000 by omega), cond_true]
     cases ht : zdB b[i] with
     | true =>
      simp only [Bool.not_true, cond_false, if_true]
      have ih := zqu N b hb m (i + 1) (out ++ [b[i]]) (by omega) (by simp; omega) (by omega)
      unfold RQ at ih
      split at ih
      ·rename_i r n hr
       (first | simp only [hr] | skip)
       obtain ⟨k, h1, h2, h3⟩ := ih
       refine ⟨k, by omega, h2, ?_⟩
       rw [h3]
       simp only [List.append_assoc, List.cons_append, List.nil_append]
      ·rename_i hr
       (first | simp only [hr] | skip)
       exact ih
     | false =>
      simp only [Bool.not_false, cond_true, Bool.false_eq_true, if_false]
      exact .inl ⟨_, rfl⟩
  ·simp only [zhF hi, cond_false]
   unfold RQ
   rw [List.drop_eq_nil_of_le (by omega)]
   exact .inr ⟨_, _, by omega, rfl⟩
def zrp (b : List UInt8) (i : Nat) : Option ((List UInt8) × Int × Bool × Unit) := some (match (if b[i]? = some 34 then sq (b.drop (i + 1)) else none) with
 | some (r, n) => (r, ((i + 1 + n : Nat) : Int), true, ())
 | none => ([], 0, false, ()))
theorem zoH (N : Nat) (b : List UInt8) (hb : b.length <= 100000) (hN : b.length < N) (i : Nat) (hi : i < b.length) : jC N b (i : Int) = zrp b i := by
 unfold jC zrp
 have d0 : decide ((i : Int) < 0) = false := by simp
 have d1 : decide (((b.length : Nat) : Int) <= (i : Int)) = false := by simp; omega
 have w1 : IntKind.wrap .i64 ((i : Int) + 1) = ((i + 1 : Nat) : Int) := by rw [wri (by omega) (by omega)]; omega
 have w2 : IntKind.wrap .i64 (((i + 1 : Nat) : Int) - 1) = (i : Int) := by rw [wri (by omega) (by omega)]; omega
 simp only [d0, d1, cond_false, w1, w2, zX hi, cond_true, Int.toNat_natCast, jK (u := .u8) hi, List.getElem?_eq_getElem hi, Option.some.injEq]
 cases hc : b[i] == (34 : UInt8) with
 | false =>
  have hc' : ¬ b[i] = 34 := by simpa using hc
  simp [hc']
 | true =>
  have hc' : b[i] = 34 := by simpa using hc
  have := ztr N b hb N (i + 1) [] (by omega) (by simp) (by omega)
  unfold QP at this
  simp only [hc', if_true, Bool.not_true, cond_false]
  split at this
  ·rename_i r n hr
   (first | simp only [hr] | skip)
   rw [this]; rfl
  ·rename_i hr
   (first | simp only [hr] | skip)
   obtain ⟨a, o', h⟩ := this
   rw [h]; rfl
theorem zq6 (N : Nat) (b : List UInt8) (hb : b.length <= 100000) (hN : b.length < N) (i : Nat) (hi : i < b.length) : jB N b (i : Int) = zrp b i := by
 unfold jB zrp
 have d0 : decide ((i : Int) < 0) = false := by simp
 have d1 : decide (((b.length : Nat) : Int) <= (i : Int)) = false := by simp; omega
 have w1 : IntKind.wrap .i64 ((i : Int) + 1) = ((i + 1 : Nat) : Int) := by rw [wri (by omega) (by omega)]; omega
 simp only [d0, d1, cond_false, w1, zX hi, cond_true, Int.toNat_natCast, jK (u := .u8) hi, List.getElem?_eq_getElem hi, Option.some.injEq]
 cases hc : b[i] != (34 : UInt8) with
 | true =>
  have hc' : ¬ b[i] = 34 := by simpa using hc
  simp [hc']
 | false =>
  have hc' : b[i] = 34 := by simpa using hc
  have := zqu N b hb N (i + 1) [] (by omega) (by simp) (by omega)
  unfold RQ at this
  simp only [hc', if_true, cond_false]
  split at this
  ·rename_i r n hr
   (first | simp only [hr] | skip)
   obtain ⟨k, h1, h2, h3⟩ := this
   rw [h3]
   have d2 : decide (((b.length : Nat) : Int) <= (k : Int)) = false := by simp; omega
   simp only [Option.bind_some, zk, d2, cond_false, List.nil_append]
   rw [wri (by omega) (by omega)]
   simp only [Option.some.injEq, Prod.mk.injEq, true_and, and_true]
   omega
  ·rename_i hr
   (first | simp only [hr] | skip)
   rcases this with ⟨o', h⟩ | ⟨o', k, hk, h⟩
   ·rw [h]; rfl
   ·rw [h]
    have d2 : decide (((b.length : Nat) : Int) <= k) = true := by simpa using hk
    simp only [Option.bind_some, zk, d2, cond_true]
def dgt (n k : Nat) : UInt8 := UInt8.ofNat (48 + n / k % 10)
theorem zey (n : Nat) : Int.tmod ((n : Nat) : Int) 100 = ((n % 100 : Nat) : Int) := rfl
theorem zev (n : Nat) : Int.tmod ((n : Nat) : Int) 10000 = ((n % 10000 : Nat) : Int) := rfl
theorem zei (n : Nat) : Int.tmod ((n : Nat) : Int) 100000000 = ((n % 100000000 : Nat) : Int) := rfl
theorem zew (n : Nat) : Int.tdiv ((n : Nat) : Int) 100 = ((n / 100 : Nat) : Int) := rfl
theorem zek (n : Nat) : Int.tdiv ((n : Nat) : Int) 10000 = ((n / 10000 : Nat) : Int) := rfl
theorem zel (n : Nat) : Int.tdiv ((n : Nat) : Int) 100000000 = ((n / 100000000 : Nat) : Int) := rfl
theorem ziM (n : Nat) : ((n : Nat) : Int) * 2 = ((n * 2 : Nat) : Int) := rfl
theorem zfG (n : Nat) : ((n : Nat) : Int) + 1 = ((n + 1 : Nat) : Int) := rfl
theorem zeD (n : Nat) : (48 : Int) + ((n : Nat) : Int) = ((48 + n : Nat) : Int) := rfl
theorem zlV {n : Nat} (h : n < 4294967296) : IntKind.wrap .u32 ((n : Nat) : Int) = ((n : Nat) : Int) := by rw [IntKind.wrap_u32]; omega
theorem zgt {n : Nat} (h : n < 18446744073709551616) : IntKind.wrap .u64 ((n : Nat) : Int) = ((n : Nat) : Int) := by rw [IntKind.wrap_u64]; omega
theorem zar {k : Nat} (h : k < 100) : nth .u8 zbI (k * 2) = UInt8.ofNat (48 + k / 10) := by
 have key : ((List.range 100).all fun k => nth .u8 zbI (k * 2) == UInt8.ofNat (48 + k / 10)) = true := by kernel_rfl
 rw [List.all_eq_true] at key
 exact beq_iff_eq.1 (key k (List.mem_range.2 h))
theorem zbO {k : Nat} (h : k < 100) : nth .u8 zbI (k * 2 + 1) = UInt8.ofNat (48 + k % 10) := by
 have key : ((List.range 100).all fun k => nth .u8 zbI (k * 2 + 1) == UInt8.ofNat (48 + k % 10)) = true := by kernel_rfl
 rw [List.all_eq_true] at key
 exact beq_iff_eq.1 (key k (List.mem_range.2 h))
theorem j3 {n : Nat} (h : n < 256) : zaw ((n : Nat) : Int) = UInt8.ofNat n := by
 unfold zaw
 rw [IntKind.wrap_u8, show (((n : Nat) : Int) % 256).toNat = n by omega]
theorem kY {n a b : Nat} (h : a = n / b % 10) : UInt8.ofNat (48 + a) = dgt n b := by rw [h]; rfl
theorem zup (N n : Nat) (hN : 10 <= N) (h1 : 100 <= n) (h2 : n < 1000) (hm : n < 4294967296) (hd : zv N ((n : Nat) : Int) = some ((3 : Int), ())) : zr N ((n : Nat) : Int) = some ([dgt n 100, dgt n 10, dgt n 1], ()) := by
 obtain ⟨m, hm2⟩ : ∃ m, N = m + 2 := ⟨N - 2, by omega⟩
 have hl : zd N N = zd N (m + 2) := congrArg _ hm2
 have c0 : decide (((n : Nat) : Int) < 100) = false := by simp; omega
 unfold zr
 simp only [zgt (show n < 18446744073709551616 by omega)]
 simp only [hd, hl, Option.bind_some, c0, cond_false, cond_true, show jw (0 : Int) (3 : Int) 24 = true from rfl, show ((Int.toNat (3 : Int)) - 0 : Nat) = 3 from rfl]
 unfold zd zw
 simp (disch := omega) only [zlV, zgt, zey, zev, zei, zew, zek, zel, ziM, zfG, zeD, Int.toNat_natCast, zX, zar, zbO, j3, cond_true, cond_false, Option.bind_some,
  show inb (0 : Int) 3 = true from rfl, show inb (1 : Int) 3 = true from rfl, show inb (2 : Int) 3 = true from rfl, show (0 + Int.toNat (1 : Int) : Nat) = 1 from rfl, show (0 + Int.toNat (2 : Int) : Nat) = 2 from rfl, show (0 + 0 : Nat) = 0 from rfl, show (0 + 3 : Nat) = 3 from rfl, show decide ((8 : Int) <= ((3 : Nat) : Int)) = false from rfl, show decide ((4 : Int) <= ((3 : Nat) : Int)) = false from rfl, show decide ((2 : Int) <= ((3 : Nat) : Int)) = true from rfl, show IntKind.wrap .i64 (((3 : Nat) : Int) - (1 : Int)) = (2 : Int) from rfl, show IntKind.wrap .i64 (((3 : Nat) : Int) - (2 : Int)) = (1 : Int) from rfl, show decide ((0 : Int) < (1 : Int)) = true from rfl]
 simp only [slice, List.set_cons_succ, List.set_cons_zero, List.drop_zero, List.take_succ_cons, List.take_zero, Nat.sub_zero, Option.some.injEq, Prod.mk.injEq, List.cons.injEq, and_true]
 refine ⟨?_, ?_, ?_⟩ <;> exact kY (by omega)
theorem zuE (N n : Nat) (hN : 10 <= N) (h1 : 1000 <= n) (h2 : n < 10000) (hm : n < 4294967296) (hd : zv N ((n : Nat) : Int) = some ((4 : Int), ())) : zr N ((n : Nat) : Int) = some ([dgt n 1000, dgt n 100, dgt n 10, dgt n 1], ()) := by
 obtain ⟨m, hm2⟩ : ∃ m, N = m + 2 := ⟨N - 2, by omega⟩
 have hl : zd N N = zd N (m + 2) := congrArg _ hm2
 have c0 : decide (((n : Nat) : Int) < 100) = false := by simp; omega
 unfold zr
 simp only [zgt (show n < 18446744073709551616 by omega)]
 simp only [hd, hl, Option.bind_some, c0, cond_false, cond_true, show jw (0 : Int) (4 : Int) 24 = true from rfl, show ((Int.toNat (4 : Int)) - 0 : Nat) = 4 from rfl]
 unfold zd zw
 simp (disch := omega) only [zlV, zgt, zey, zev, zei, zew, zek, zel, ziM, zfG, zeD, Int.toNat_natCast, zX, zar, zbO, j3, cond_true, cond_false, Option.bind_some,
  show inb (0 : Int) 4 = true from rfl, show inb (1 : Int) 4 = true from rfl, show inb (2 : Int) 4 = true from rfl, show inb (3 : Int) 4 = true from rfl, show (0 + Int.toNat (0 : Int) : Nat) = 0 from rfl, show (0 + Int.toNat (1 : Int) : Nat) = 1 from rfl, show (0 + Int.toNat (2 : Int) : Nat) = 2 from rfl, show (0 + Int.toNat (3 : Int) : Nat) = 3 from rfl, show (0 + 0 : Nat) = 0 from rfl, show (0 + 4 : Nat) = 4 from rfl, show decide ((8 : Int) <= ((4 : Nat) : Int)) = false from rfl, show decide ((4 : Int) <= ((4 : Nat) : Int)) = true from rfl, show IntKind.wrap .i64 (((4 : Nat) : Int) - (1 : Int)) = (3 : Int) from rfl, show IntKind.wrap .i64 (((4 : Nat) : Int) - (2 : Int)) = (2 : Int) from rfl, show IntKind.wrap .i64 (((4 : Nat) : Int) - (3 : Int)) = (1 : Int) from rfl, show IntKind.wrap .i64 (((4 : Nat) : Int) - (4 : Int)) = (0 : Int) from rfl, show decide ((2 : Int) <= (0 : Int)) = false from rfl, show decide ((0 : Int) < (0 : Int)) = false from rfl]
 simp only [slice, List.set_cons_succ, List.set_cons_zero, List.drop_zero, List.take_succ_cons, List.take_zero, Nat.sub_zero, Option.some.injEq, Prod.mk.injEq, List.cons.injEq, and_true]
 refine ⟨?_, ?_, ?_, ?_⟩ <;> exact kY (by omega)
theorem zun (N n : Nat) (hN : 10 <= N) (h1 : 10000 <= n) (h2 : n < 100000) (hm : n < 4294967296) (hd : zv N ((n : Nat) : Int) = some ((5 : Int), ())) : zr N ((n : Nat) : Int) = some ([dgt n 10000, dgt n 1000, dgt n 100, dgt n 10, dgt n 1], ()) := by
 obtain ⟨m, hm2⟩ : ∃ m, N = m + 2 := ⟨N - 2, by omega⟩
 have hl : zd N N = zd N (m + 2) := congrArg _ hm2
 have c0 : decide (((n : Nat) : Int) < 100) = false := by simp; omega
 unfold zr
 simp only [zgt (show n < 18446744073709551616 by omega)]
 simp only [hd, hl, Option.bind_some, c0, cond_false, cond_true, show jw (0 : Int) (5 : Int) 24 = true from rfl, show ((Int.toNat (5 : Int)) - 0 : Nat) = 5 from rfl]
 unfold zd zw
 simp (disch := omega) only [zlV, zgt, zey, zev, zei, zew, zek, zel, ziM, zfG, zeD, Int.toNat_natCast, zX, zar, zbO, j3, cond_true, cond_false, Option.bind_some,
  show inb (0 : Int) 5 = true from rfl, show inb (1 : Int) 5 = true from rfl, show inb (2 : Int) 5 = true from rfl, show inb (3 : Int) 5 = true from rfl, show inb (4 : Int) 5 = true from rfl, show (0 + Int.toNat (1 : Int) : Nat) = 1 from rfl, show (0 + Int.toNat (2 : Int) : Nat) = 2 from rfl, show (0 + Int.toNat (3 : Int) : Nat) = 3 from rfl, show (0 + Int.toNat (4 : Int) : Nat) = 4 from rfl, show (0 + 0 : Nat) = 0 from rfl, show (0 + 5 : Nat) = 5 from rfl, show decide ((8 : Int) <= ((5 : Nat) : Int)) = false from rfl, show decide ((4 : Int) <= ((5 : Nat) : Int)) = true from rfl, show IntKind.wrap .i64 (((5 : Nat) : Int) - (1 : Int)) = (4 : Int) from rfl, show IntKind.wrap .i64 (((5 : Nat) : Int) - (2 : Int)) = (3 : Int) from rfl, show IntKind.wrap .i64 (((5 : Nat) : Int) - (3 : Int)) = (2 : Int) from rfl, show IntKind.wrap .i64 (((5 : Nat) : Int) - (4 : Int)) = (1 : Int) from rfl, show decide ((2 : Int) <= (1 : Int)) = false from rfl, show decide ((0 : Int) < (1 : Int)) = true from rfl]
 simp only [slice, List.set_cons_succ, List.set_cons_zero, List.drop_zero, List.take_succ_cons, List.take_zero, Nat.sub_zero, Option.some.injEq, Prod.mk.injEq, List.cons.injEq, and_true]
 refine ⟨?_, ?_, ?_, ?_, ?_⟩ <;> exact kY (by omega)
theorem zuZ (N n : Nat) (hN : 10 <= N) (h1 : 100000 <= n) (h2 : n < 1000000) (hm : n < 4294967296) (hd : zv N ((n : Nat) : Int) = some ((6 : Int), ())) : zr N ((n : Nat) : Int) = some ([dgt n 100000, dgt n 10000, dgt n 1000, dgt n 100, dgt n 10, dgt n 1], ()) := by
 obtain ⟨m, hm2⟩ : ∃ m, N = m + 2 := ⟨N - 2, by omega⟩
 have hl : zd N N = zd N (m + 2) := congrArg _ hm2
 have c0 : decide (((n : Nat) : Int) < 100) = false := by simp; omega
 unfold zr
 simp only [zgt (show n < 18446744073709551616 by omega)]
 simp only [hd, hl, Option.bind_some, c0, cond_false, cond_true, show jw (0 : Int) (6 : Int) 24 = true from rfl, show ((Int.toNat (6 : Int)) - 0 : Nat) = 6 from rfl]
 unfold zd zw
 simp (disch := omega) only [zlV, zgt, zey, zev, zei, zew, zek, zel, ziM, zfG, zeD, Int.toNat_natCast, zX, zar, zbO, j3, cond_true, cond_false, Option.bind_some,
  show inb (0 : Int) 6 = true from rfl, show inb (1 : Int) 6 = true from rfl, show inb (2 : Int) 6 = true from rfl, show inb (3 : Int) 6 = true from rfl, show inb (4 : Int) 6 = true from rfl, show inb (5 : Int) 6 = true from rfl, show (0 + Int.toNat (0 : Int) : Nat) = 0 from rfl, show (0 + Int.toNat (1 : Int) : Nat) = 1 from rfl, show (0 + Int.toNat (2 : Int) : Nat) = 2 from rfl, show (0 + Int.toNat (3 : Int) : Nat) = 3 from rfl, show (0 + Int.toNat (4 : Int) : Nat) = 4 from rfl, show (0 + Int.toNat (5 : Int) : Nat) = 5 from rfl, show (0 + 0 : Nat) = 0 from rfl, show (0 + 6 : Nat) = 6 from rfl, show decide ((8 : Int) <= ((6 : Nat) : Int)) = false from rfl, show decide ((4 : Int) <= ((6 : Nat) : Int)) = true from rfl, show IntKind.wrap .i64 (((6 : Nat) : Int) - (1 : Int)) = (5 : Int) from rfl, show IntKind.wrap .i64 (((6 : Nat) : Int) - (2 : Int)) = (4 : Int) from rfl, show IntKind.wrap .i64 (((6 : Nat) : Int) - (3 : Int)) = (3 : Int) from rfl, show IntKind.wrap .i64 (((6 : Nat) : Int) - (4 : Int)) = (2 : Int) from rfl, show decide ((2 : Int) <= (2 : Int)) = true from rfl, show IntKind.wrap .i64 ((2 : Int) - (1 : Int)) = (1 : Int) from rfl, show IntKind.wrap .i64 ((2 : Int) - (2 : Int)) = (0 : Int) from rfl, show decide ((0 : Int) < (0 : Int)) = false from rfl]
 simp only [slice, List.set_cons_succ, List.set_cons_zero, List.drop_zero, List.take_succ_cons, List.take_zero, Nat.sub_zero, Option.some.injEq, Prod.mk.injEq, List.cons.injEq, and_true]
 refine ⟨?_, ?_, ?_, ?_, ?_, ?_⟩ <;> exact kY (by omega)
theorem zuA (N n : Nat) (hN : 10 <= N) (h1 : 1000000 <= n) (h2 : n < 10000000) (hm : n < 4294967296) (hd : zv N ((n : Nat) : Int) = some ((7 : Int), ())) : zr N ((n : Nat) : Int) = some ([dgt n 1000000, dgt n 100000, dgt n 10000, dgt n 1000, dgt n 100, dgt n 10, dgt n 1], ()) := by
 obtain ⟨m, hm2⟩ : ∃ m, N = m + 2 := ⟨N - 2, by omega⟩
 have hl : zd N N = zd N (m + 2) := congrArg _ hm2
 have c0 : decide (((n : Nat) : Int) < 100) = false := by simp; omega
 unfold zr
 simp only [zgt (show n < 18446744073709551616 by omega)]
 simp only [hd, hl, Option.bind_some, c0, cond_false, cond_true, show jw (0 : Int) (7 : Int) 24 = true from rfl, show ((Int.toNat (7 : Int)) - 0 : Nat) = 7 from rfl]
 unfold zd zw
 simp (disch := omega) only [zlV, zgt, zey, zev, zei, zew, zek, zel, ziM, zfG, zeD, Int.toNat_natCast, zX, zar, zbO, j3, cond_true, cond_false, Option.bind_some,
  show inb (0 : Int) 7 = true from rfl, show inb (1 : Int) 7 = true from rfl, show inb (2 : Int) 7 = true from rfl, show inb (3 : Int) 7 = true from rfl, show inb (4 : Int) 7 = true from rfl, show inb (5 : Int) 7 = true from rfl, show inb (6 : Int) 7 = true from rfl, show (0 + Int.toNat (1 : Int) : Nat) = 1 from rfl, show (0 + Int.toNat (2 : Int) : Nat) = 2 from rfl, show (0 + Int.toNat (3 : Int) : Nat) = 3 from rfl, show (0 + Int.toNat (4 : Int) : Nat) = 4 from rfl, show (0 + Int.toNat (5 : Int) : Nat) = 5 from rfl, show (0 + Int.toNat (6 : Int) : Nat) = 6 from rfl, show (0 + 0 : Nat) = 0 from rfl, show (0 + 7 : Nat) = 7 from rfl, show decide ((8 : Int) <= ((7 : Nat) : Int)) = false from rfl, show decide ((4 : Int) <= ((7 : Nat) : Int)) = true from rfl, show IntKind.wrap .i64 (((7 : Nat) : Int) - (1 : Int)) = (6 : Int) from rfl, show IntKind.wrap .i64 (((7 : Nat) : Int) - (2 : Int)) = (5 : Int) from rfl, show IntKind.wrap .i64 (((7 : Nat) : Int) - (3 : Int)) = (4 : Int) from rfl, show IntKind.wrap .i64 (((7 : Nat) : Int) - (4 : Int)) = (3 : Int) from rfl, show decide ((2 : Int) <= (3 : Int)) = true from rfl, show IntKind.wrap .i64 ((3 : Int) - (1 : Int)) = (2 : Int) from rfl, show IntKind.wrap .i64 ((3 : Int) - (2 : Int)) = (1 : Int) from rfl, show decide ((0 : Int) < (1 : Int)) = true from rfl]
 simp only [slice, List.set_cons_succ, List.set_cons_zero, List.drop_zero, List.take_succ_cons, List.take_zero, Nat.sub_zero, Option.some.injEq, Prod.mk.injEq, List.cons.injEq, and_true]
 refine ⟨?_, ?_, ?_, ?_, ?_, ?_, ?_⟩ <;> exact kY (by omega)
theorem zuc (N n : Nat) (hN : 10 <= N) (h1 : 10000000 <= n) (h2 : n < 100000000) (hm : n < 4294967296) (hd : zv N ((n : Nat) : Int) = some ((8 : Int), ())) : zr N ((n : Nat) : Int) = some ([dgt n 10000000, dgt n 1000000, dgt n 100000, dgt n 10000, dgt n 1000, dgt n 100, dgt n 10, dgt n 1], ()) := by
 obtain ⟨m, hm2⟩ : ∃ m, N = m + 2 := ⟨N - 2, by omega⟩
 have hl : zd N N = zd N (m + 2) := congrArg _ hm2
 have c0 : decide (((n : Nat) : Int) < 100) = false := by simp; omega
 unfold zr
 simp only [zgt (show n < 18446744073709551616 by omega)]
 simp only [hd, hl, Option.bind_some, c0, cond_false, cond_true, show jw (0 : Int) (8 : Int) 24 = true from rfl, show ((Int.toNat (8 : Int)) - 0 : Nat) = 8 from rfl]
 unfold zd zw
 unfold zd zw
 simp (disch := omega) only [zlV, zgt, zey, zev, zei, zew, zek, zel, ziM, zfG, zeD, Int.toNat_natCast, zX, zar, zbO, j3, cond_true, cond_false, Option.bind_some,
  show inb (0 : Int) 8 = true from rfl, show inb (1 : Int) 8 = true from rfl, show inb (2 : Int) 8 = true from rfl, show inb (3 : Int) 8 = true from rfl, show inb (4 : Int) 8 = true from rfl, show inb (5 : Int) 8 = true from rfl, show inb (6 : Int) 8 = true from rfl, show inb (7 : Int) 8 = true from rfl, show (0 + Int.toNat (0 : Int) : Nat) = 0 from rfl, show (0 + Int.toNat (1 : Int) : Nat) = 1 from rfl, show (0 + Int.toNat (2 : Int) : Nat) = 2 from rfl, show (0 + Int.toNat (3 : Int) : Nat) = 3 from rfl, show (0 + Int.toNat (4 : Int) : Nat) = 4 from rfl, show (0 + Int.toNat (5 : Int) : Nat) = 5 from rfl, show (0 + Int.toNat (6 : Int) : Nat) = 6 from rfl, show (0 + Int.toNat (7 : Int) : Nat) = 7 from rfl, show (0 + 0 : Nat) = 0 from rfl, show (0 + 8 : Nat) = 8 from rfl, show decide ((8 : Int) <= ((8 : Nat) : Int)) = true from rfl, show IntKind.wrap .i64 (((8 : Nat) : Int) - (1 : Int)) = (7 : Int) from rfl, show IntKind.wrap .i64 (((8 : Nat) : Int) - (2 : Int)) = (6 : Int) from rfl, show IntKind.wrap .i64 (((8 : Nat) : Int) - (3 : Int)) = (5 : Int) from rfl, show IntKind.wrap .i64 (((8 : Nat) : Int) - (4 : Int)) = (4 : Int) from rfl, show IntKind.wrap .i64 (((8 : Nat) : Int) - (5 : Int)) = (3 : Int) from rfl, show IntKind.wrap .i64 (((8 : Nat) : Int) - (6 : Int)) = (2 : Int) from rfl, show IntKind.wrap .i64 (((8 : Nat) : Int) - (7 : Int)) = (1 : Int) from rfl, show IntKind.wrap .i64 (((8 : Nat) : Int) - (8 : Int)) = (0 : Int) from rfl, show decide ((8 : Int) <= (0 : Int)) = false from rfl, show decide ((4 : Int) <= (0 : Int)) = false from rfl, show decide ((2 : Int) <= (0 : Int)) = false from rfl, show decide ((0 : Int) < (0 : Int)) = false from rfl]
 simp only [slice, List.set_cons_succ, List.set_cons_zero, List.drop_zero, List.take_succ_cons, List.take_zero, Nat.sub_zero, Option.some.injEq, Prod.mk.injEq, List.cons.injEq, and_true]
 refine ⟨?_, ?_, ?_, ?_, ?_, ?_, ?_, ?_⟩ <;> exact kY (by omega)
theorem zuJ (N n : Nat) (hN : 10 <= N) (h1 : 100000000 <= n) (h2 : n < 1000000000) (hm : n < 4294967296) (hd : zv N ((n : Nat) : Int) = some ((9 : Int), ())) : zr N ((n : Nat) : Int) = some ([dgt n 100000000, dgt n 10000000, dgt n 1000000, dgt n 100000, dgt n 10000, dgt n 1000, dgt n 100, dgt n 10, dgt n 1], ()) := by
 obtain ⟨m, hm2⟩ : ∃ m, N = m + 2 := ⟨N - 2, by omega⟩
 have hl : zd N N = zd N (m + 2) := congrArg _ hm2
 have c0 : decide (((n : Nat) : Int) < 100) = false := by simp; omega
 unfold zr
 simp only [zgt (show n < 18446744073709551616 by omega)]
 simp only [hd, hl, Option.bind_some, c0, cond_false, cond_true, show jw (0 : Int) (9 : Int) 24 = true from rfl, show ((Int.toNat (9 : Int)) - 0 : Nat) = 9 from rfl]
 unfold zd zw
 unfold zd zw
 simp (disch := omega) only [zlV, zgt, zey, zev, zei, zew, zek, zel, ziM, zfG, zeD, Int.toNat_natCast, zX, zar, zbO, j3, cond_true, cond_false, Option.bind_some,
  show inb (0 : Int) 9 = true from rfl, show inb (1 : Int) 9 = true from rfl, show inb (2 : Int) 9 = true from rfl, show inb (3 : Int) 9 = true from rfl, show inb (4 : Int) 9 = true from rfl, show inb (5 : Int) 9 = true from rfl, show inb (6 : Int) 9 = true from rfl, show inb (7 : Int) 9 = true from rfl, show inb (8 : Int) 9 = true from rfl, show (0 + Int.toNat (1 : Int) : Nat) = 1 from rfl, show (0 + Int.toNat (2 : Int) : Nat) = 2 from rfl, show (0 + Int.toNat (3 : Int) : Nat) = 3 from rfl, show (0 + Int.toNat (4 : Int) : Nat) = 4 from rfl, show (0 + Int.toNat (5 : Int) : Nat) = 5 from rfl, show (0 + Int.toNat (6 : Int) : Nat) = 6 from rfl, show (0 + Int.toNat (7 : Int) : Nat) = 7 from rfl, show (0 + Int.toNat (8 : Int) : Nat) = 8 from rfl, show (0 + 0 : Nat) = 0 from rfl, show (0 + 9 : Nat) = 9 from rfl, show decide ((8 : Int) <= ((9 : Nat) : Int)) = true from rfl, show IntKind.wrap .i64 (((9 : Nat) : Int) - (1 : Int)) = (8 : Int) from rfl, show IntKind.wrap .i64 (((9 : Nat) : Int) - (2 : Int)) = (7 : Int) from rfl, show IntKind.wrap .i64 (((9 : Nat) : Int) - (3 : Int)) = (6 : Int) from rfl, show IntKind.wrap .i64 (((9 : Nat) : Int) - (4 : Int)) = (5 : Int) from rfl, show IntKind.wrap .i64 (((9 : Nat) : Int) - (5 : Int)) = (4 : Int) from rfl, show IntKind.wrap .i64 (((9 : Nat) : Int) - (6 : Int)) = (3 : Int) from rfl, show IntKind.wrap .i64 (((9 : Nat) : Int) - (7 : Int)) = (2 : Int) from rfl, show IntKind.wrap .i64 (((9 : Nat) : Int) - (8 : Int)) = (1 : Int) from rfl, show decide ((8 : Int) <= (1 : Int)) = false from rfl, show decide ((4 : Int) <= (1 : Int)) = false from rfl, show decide ((2 : Int) <= (1 : Int)) = false from rfl, show decide ((0 : Int) < (1 : Int)) = true from rfl]
 simp only [slice, List.set_cons_succ, List.set_cons_zero, List.drop_zero, List.take_succ_cons, List.take_zero, Nat.sub_zero, Option.some.injEq, Prod.mk.injEq, List.cons.injEq, and_true]
 refine ⟨?_, ?_, ?_, ?_, ?_, ?_, ?_, ?_, ?_⟩ <;> exact kY (by omega)
theorem ztv (N n : Nat) (hN : 10 <= N) (h1 : 1000000000 <= n) (h2 : n < 10000000000) (hm : n < 4294967296) (hd : zv N ((n : Nat) : Int) = some ((10 : Int), ())) : zr N ((n : Nat) : Int) = some ([dgt n 1000000000, dgt n 100000000, dgt n 10000000, dgt n 1000000, dgt n 100000, dgt n 10000, dgt n 1000, dgt n 100, dgt n 10, dgt n 1], ()) := by
 obtain ⟨m, hm2⟩ : ∃ m, N = m + 2 := ⟨N - 2, by omega⟩
 have hl : zd N N = zd N (m + 2) := congrArg _ hm2
 have c0 : decide (((n : Nat) : Int) < 100) = false := by simp; omega
 unfold zr
 simp only [zgt (show n < 18446744073709551616 by omega)]
 simp only [hd, hl, Option.bind_some, c0, cond_false, cond_true, show jw (0 : Int) (10 : Int) 24 = true from rfl, show ((Int.toNat (10 : Int)) - 0 : Nat) = 10 from rfl]
 unfold zd zw
 unfold zd zw
 simp (disch := omega) only [zlV, zgt, zey, zev, zei, zew, zek, zel, ziM, zfG, zeD, Int.toNat_natCast, zX, zar, zbO, j3, cond_true, cond_false, Option.bind_some,
  show inb (0 : Int) 10 = true from rfl, show inb (1 : Int) 10 = true from rfl, show inb (2 : Int) 10 = true from rfl, show inb (3 : Int) 10 = true from rfl, show inb (4 : Int) 10 = true from rfl, show inb (5 : Int) 10 = true from rfl, show inb (6 : Int) 10 = true from rfl, show inb (7 : Int) 10 = true from rfl, show inb (8 : Int) 10 = true from rfl, show inb (9 : Int) 10 = true from rfl, show (0 + Int.toNat (0 : Int) : Nat) = 0 from rfl, show (0 + Int.toNat (1 : Int) : Nat) = 1 from rfl, show (0 + Int.toNat (2 : Int) : Nat) = 2 from rfl, show (0 + Int.toNat (3 : Int) : Nat) = 3 from rfl, show (0 + Int.toNat (4 : Int) : Nat) = 4 from rfl, show (0 + Int.toNat (5 : Int) : Nat) = 5 from rfl, show (0 + Int.toNat (6 : Int) : Nat) = 6 from rfl, show (0 + Int.toNat (7 : Int) : Nat) = 7 from rfl, show (0 + Int.toNat (8 : Int) : Nat) = 8 from rfl, show (0 + Int.toNat (9 : Int) : Nat) = 9 from rfl, show (0 + 0 : Nat) = 0 from rfl, show (0 + 10 : Nat) = 10 from rfl, show decide ((8 : Int) <= ((10 : Nat) : Int)) = true from rfl, show IntKind.wrap .i64 (((10 : Nat) : Int) - (1 : Int)) = (9 : Int) from rfl, show IntKind.wrap .i64 (((10 : Nat) : Int) - (2 : Int)) = (8 : Int) from rfl, show IntKind.wrap .i64 (((10 : Nat) : Int) - (3 : Int)) = (7 : Int) from rfl, show IntKind.wrap .i64 (((10 : Nat) : Int) - (4 : Int)) = (6 : Int) from rfl, show IntKind.wrap .i64 (((10 : Nat) : Int) - (5 : Int)) = (5 : Int) from rfl, show IntKind.wrap .i64 (((10 : Nat) : Int) - (6 : Int)) = (4 : Int) from rfl, show IntKind.wrap .i64 (((10 : Nat) : Int) - (7 : Int)) = (3 : Int) from rfl, show IntKind.wrap .i64 (((10 : Nat) : Int) - (8 : Int)) = (2 : Int) from rfl, show decide ((8 : Int) <= (2 : Int)) = false from rfl, show decide ((4 : Int) <= (2 : Int)) = false from rfl, show decide ((2 : Int) <= (2 : Int)) = true from rfl, show IntKind.wrap .i64 ((2 : Int) - (1 : Int)) = (1 : Int) from rfl, show IntKind.wrap .i64 ((2 : Int) - (2 : Int)) = (0 : Int) from rfl, show decide ((0 : Int) < (0 : Int)) = false from rfl]
 simp only [slice, List.set_cons_succ, List.set_cons_zero, List.drop_zero, List.take_succ_cons, List.take_zero, Nat.sub_zero, Option.some.injEq, Prod.mk.injEq, List.cons.injEq, and_true]
 refine ⟨?_, ?_, ?_, ?_, ?_, ?_, ?_, ?_, ?_, ?_⟩ <;> exact kY (by omega)
theorem znP (n m : Nat) : Int.fdiv ((n : Nat) : Int) ((m : Nat) : Int) = ((n / m : Nat) : Int) := by
 rw [Int.fdiv_eq_ediv_of_nonneg _ (by omega)]; rfl
theorem p8 : ((2 : Int) ^ (min (Int.toNat (8 : Int)) (IntKind.bits .u64))) = ((256 : Nat) : Int) := rfl
theorem p16 : ((2 : Int) ^ (min (Int.toNat (16 : Int)) (IntKind.bits .u64))) = ((65536 : Nat) : Int) := rfl
theorem p18 : ((2 : Int) ^ (min (Int.toNat (18 : Int)) (IntKind.bits .i64))) = ((262144 : Nat) : Int) := rfl
def tL (k : Nat) : Nat := (nth .u8 zof k).toNat
theorem zmw {k : Nat} (h : k < 256) (h0 : 0 < k) : 2 ^ (tL k - 1) <= k /\ k < 2 ^ tL k /\ 1 <= tL k /\ tL k <= 8 := by
 have key : ((List.range 256).all fun k => k == 0 || (Nat.ble (2 ^ (tL k - 1)) k && (Nat.blt k (2 ^ tL k) && (Nat.ble 1 (tL k) && Nat.ble (tL k) 8)))) = true := by kernel_rfl
 rw [List.all_eq_true] at key
 have := key k (List.mem_range.2 h)
 simp only [Bool.or_eq_true, Bool.and_eq_true, beq_iff_eq, Nat.blt_eq] at this
 rcases this with h1 | ⟨h1, h2, h3, h4⟩
 ·omega
 ·exact ⟨Nat.le_of_ble_eq_true h1, h2, Nat.le_of_ble_eq_true h3, Nat.le_of_ble_eq_true h4⟩
theorem u8n {k : Nat} (h : k < 256) : UInt8.toNat (zaw ((k : Nat) : Int)) = k := by
 rw [j3 h, UInt8.toNat_ofNat']; omega
theorem zts (N n : Nat) (h0 : 0 < n) (h : n < 4294967296) : ∃ L : Nat, 1 <= L /\ L <= 32 /\ 2 ^ (L - 1) <= n /\ n < 2 ^ L /\ jQ N ((n : Nat) : Int) = some ((L : Int), ()) := by
 have c1 : decide ((4294967296 : Int) <= ((n : Nat) : Int)) = false := by simp; omega
 unfold jQ
 simp only [c1, cond_false, p8, p16, znP]
 have fin : ∀ (b k : Nat), k < 256 -> 0 < k -> b <= 24 -> 2 ^ b * k <= n -> n < 2 ^ b * (k + 1) -> ∃ L : Nat, 1 <= L /\ L <= 32 /\ 2 ^ (L - 1) <= n /\ n < 2 ^ L /\ (some (((b + tL k : Nat) : Int), ()) : Option (Int × Unit)) = some ((L : Int), ()) := by
  intro b k hk hk0 hb h1 h2
  obtain ⟨q1, q2, q3, q4⟩ := zmw hk hk0
  refine ⟨b + tL k, by omega, by omega, ?_, ?_, rfl⟩
  ·rw [show b + tL k - 1 = b + (tL k - 1) by omega, Nat.pow_add]
   exact Nat.le_trans (Nat.mul_le_mul_left _ q1) h1
  ·rw [Nat.pow_add]
   exact Nat.lt_of_lt_of_le h2 (Nat.mul_le_mul_left _ q2)
 have val : ∀ (b k : Nat), k < 256 -> b <= 24 -> 0 < k -> IntKind.wrap .i64 (((b : Nat) : Int) + IntKind.wrap .i64 ((UInt8.toNat (nth .u8 zof (Int.toNat ((UInt8.toNat (zaw ((k : Nat) : Int)) : Nat) : Int))) : Nat) : Int)) = ((b + tL k : Nat) : Int) := by
  intro b k hk hb hk0
  have := zmw hk hk0
  rw [u8n hk, Int.toNat_natCast]
  show IntKind.wrap .i64 (((b : Nat) : Int) + IntKind.wrap .i64 ((tL k : Nat) : Int)) = _
  rw [wri (x := ((tL k : Nat) : Int)) (by omega) (by omega), wri (by omega) (by omega)]; omega
 by_cases a1 : 65536 <= n
 ·have c2 : decide ((65536 : Int) <= ((n : Nat) : Int)) = true := by simp; omega
  simp only [c2, cond_true]
  by_cases a2 : 256 <= n / 65536
  ·have c3 : decide ((256 : Int) <= ((n / 65536 : Nat) : Int)) = true := by simp only [decide_eq_true_eq]; omega
   have hk : n / 65536 / 256 < 256 := by omega
   simp only [c3, cond_true]
   rw [u8n hk, zX hk, cond_true, <- u8n hk]
   have := val 24 (n / 65536 / 256) hk (by omega) (by omega)
   rw [u8n hk] at this |-
   rw [show ((24 : Nat) : Int) = (24 : Int) from rfl] at this
   rw [this]
   exact fin 24 _ hk (by omega) (by omega) (by omega) (by omega)
  ·have c3 : decide ((256 : Int) <= ((n / 65536 : Nat) : Int)) = false := by simp only [decide_eq_false_iff_not]; omega
   have hk : n / 65536 < 256 := by omega
   simp only [c3, cond_false]
   rw [u8n hk, zX hk, cond_true]
   have := val 16 (n / 65536) hk (by omega) (by omega)
   rw [u8n hk, show ((16 : Nat) : Int) = (16 : Int) from rfl] at this
   rw [this]
   exact fin 16 _ hk (by omega) (by omega) (by omega) (by omega)
 ·have c2 : decide ((65536 : Int) <= ((n : Nat) : Int)) = false := by simp; omega
  simp only [c2, cond_false]
  by_cases a2 : 256 <= n
  ·have c3 : decide ((256 : Int) <= ((n : Nat) : Int)) = true := by simp; omega
   have hk : n / 256 < 256 := by omega
   simp only [c3, cond_true]
   rw [u8n hk, zX hk, cond_true]
   have := val 8 (n / 256) hk (by omega) (by omega)
   rw [u8n hk, show ((8 : Nat) : Int) = (8 : Int) from rfl] at this
   rw [this]
   exact fin 8 _ hk (by omega) (by omega) (by omega) (by omega)
  ·have c3 : decide ((256 : Int) <= ((n : Nat) : Int)) = false := by simp; omega
   have hk : n < 256 := by omega
   simp only [c3, cond_false]
   rw [u8n hk, zX hk, cond_true]
   have := val 0 n hk (by omega) (by omega)
   rw [u8n hk, show ((0 : Nat) : Int) = (0 : Int) from rfl] at this
   rw [this]
   exact fin 0 _ hk (by omega) (by omega) (by omega) (by omega)
def zs5 : List Int := [1, 10, 100, 1000, 10000, 100000, 1000000, 10000000, 100000000, 1000000000, 10000000000, 100000000000, 1000000000000, 10000000000000, 100000000000000, 1000000000000000, 10000000000000000, 100000000000000000, 1000000000000000000, 10000000000000000000]
def pw (k : Nat) : Int := nth (.int .u64) zs5 k
theorem digits (N n : Nat) (h0 : 0 < n) (h : n < 4294967296) : ∃ L : Nat, 1 <= L /\ L <= 32 /\ 2 ^ (L - 1) <= n /\ n < 2 ^ L /\ zv N ((n : Nat) : Int) = some (((L * 78913 / 262144 + (if pw (L * 78913 / 262144) <= (n : Int) then 1 else 0) : Nat) : Int), ()) := by
 obtain ⟨L, h1, h2, h3, h4, h5⟩ := zts N n h0 h
 refine ⟨L, h1, h2, h3, h4, ?_⟩
 unfold zv j7 j5
 simp only [h5, Option.bind_some, p18]
 rw [wri (by omega) (by omega), show ((L : Nat) : Int) * 78913 = ((L * 78913 : Nat) : Int) from rfl, znP]
 have ht : L * 78913 / 262144 < 20 := by omega
 simp only [zX ht, Bool.and_self, cond_true, Int.toNat_natCast]
 show Option.bind (cond (decide (pw (L * 78913 / 262144) <= (n : Int))) (some ((1 : Int), ())) (some ((0 : Int), ()))) _ = _
 by_cases hc : pw (L * 78913 / 262144) <= (n : Int)
 ·rw [decide_eq_true hc, if_pos hc]
  simp only [cond_true, Option.bind_some]
  rw [wri (by omega) (by omega)]; rfl
 ·rw [decide_eq_false hc, if_neg hc]
  simp only [cond_false, Option.bind_some]
  rw [wri (by omega) (by omega)]; rfl
theorem zpI (N n d : Nat) (h0 : 100 <= n) (h : n < 4294967296) (h1 : 3 <= d) (h2 : d <= 10) (h3 : 10 ^ (d - 1) <= n) (h4 : n < 10 ^ d) : zv N ((n : Nat) : Int) = some (((d : Nat) : Int), ()) := by
 obtain ⟨L, q1, q2, q3, q4, q5⟩ := digits N n (by omega) h
 rw [q5]
 clear q5
 have hL : L = 1 \/ L = 2 \/ L = 3 \/ L = 4 \/ L = 5 \/ L = 6 \/ L = 7 \/ L = 8 \/ L = 9 \/ L = 10 \/ L = 11 \/ L = 12 \/ L = 13 \/ L = 14 \/ L = 15 \/ L = 16 \/ L = 17 \/ L = 18 \/ L = 19 \/ L = 20 \/ L = 21 \/ L = 22 \/ L = 23 \/ L = 24 \/ L = 25 \/ L = 26 \/ L = 27 \/ L = 28 \/ L = 29 \/ L = 30 \/ L = 31 \/ L = 32 := by omega
 have hd : d = 3 \/ d = 4 \/ d = 5 \/ d = 6 \/ d = 7 \/ d = 8 \/ d = 9 \/ d = 10 := by omega
 have fin : L * 78913 / 262144 + (if pw (L * 78913 / 262144) <= (n : Int) then 1 else 0) = d := by
  rcases hd with rfl | rfl | rfl | rfl | rfl | rfl | rfl | rfl <;> simp only [Nat.reduceSub, Nat.reducePow] at h3 h4
  all_goals
   rcases hL with rfl | rfl | rfl | rfl | rfl | rfl | rfl | rfl | rfl | rfl | rfl | rfl | rfl | rfl | rfl | rfl | rfl | rfl | rfl | rfl | rfl | rfl | rfl | rfl | rfl | rfl | rfl | rfl | rfl | rfl | rfl | rfl <;> simp only [Nat.reduceSub, Nat.reducePow] at q3 q4 <;> first
    | (exfalso; omega; done)
    | (simp only [Nat.reduceMul, Nat.reduceDiv, show pw 2 = 100 from rfl, show pw 3 = 1000 from rfl, show pw 4 = 10000 from rfl, show pw 5 = 100000 from rfl, show pw 6 = 1000000 from rfl, show pw 7 = 10000000 from rfl, show pw 8 = 100000000 from rfl, show pw 9 = 1000000000 from rfl]; split <;> omega)
 rw [fin]
def qb : Nat -> Nat -> List UInt8
 | 0, _ => []
 | f + 1, n => if n < 10 then [UInt8.ofNat (48 + n)] else qb f (n / 10) ++ [UInt8.ofNat (48 + n % 10)]
def dec (n : Nat) : List UInt8 := qb 10 n
theorem zum (n : Nat) (h1 : 100 <= n) (h2 : n < 1000) : dec n = [dgt n 100, dgt n 10, dgt n 1] := by
 unfold dec
 rw [show qb 10 (n) = qb 9 (n / 10) ++ [UInt8.ofNat (48 + n % 10)] from if_neg (by omega)]
 rw [show qb 9 (n / 10) = qb 8 (n / 10 / 10) ++ [UInt8.ofNat (48 + n / 10 % 10)] from if_neg (by omega)]
 rw [show qb 8 (n / 10 / 10) = [UInt8.ofNat (48 + n / 10 / 10)] from if_pos (by omega)]
 simp only [List.cons_append, List.nil_append, List.cons.injEq, and_true]
 refine ⟨?_, ?_, ?_⟩ <;> exact kY (by omega)
theorem zuW (n : Nat) (h1 : 1000 <= n) (h2 : n < 10000) : dec n = [dgt n 1000, dgt n 100, dgt n 10, dgt n 1] := by
 unfold dec
 rw [show qb 10 (n) = qb 9 (n / 10) ++ [UInt8.ofNat (48 + n % 10)] from if_neg (by omega)]
 rw [show qb 9 (n / 10) = qb 8 (n / 10 / 10) ++ [UInt8.ofNat (48 + n / 10 % 10)] from if_neg (by omega)]
 rw [show qb 8 (n / 10 / 10) = qb 7 (n / 10 / 10 / 10) ++ [UInt8.ofNat (48 + n / 10 / 10 % 10)] from if_neg (by omega)]
 rw [show qb 7 (n / 10 / 10 / 10) = [UInt8.ofNat (48 + n / 10 / 10 / 10)] from if_pos (by omega)]
 simp only [List.cons_append, List.nil_append, List.cons.injEq, and_true]
 refine ⟨?_, ?_, ?_, ?_⟩ <;> exact kY (by omega)
theorem zur (n : Nat) (h1 : 10000 <= n) (h2 : n < 100000) : dec n = [dgt n 10000, dgt n 1000, dgt n 100, dgt n 10, dgt n 1] := by
 unfold dec
 rw [show qb 10 (n) = qb 9 (n / 10) ++ [UInt8.ofNat (48 + n % 10)] from if_neg (by omega)]
 rw [show qb 9 (n / 10) = qb 8 (n / 10 / 10) ++ [UInt8.ofNat (48 + n / 10 % 10)] from if_neg (by omega)]
 rw [show qb 8 (n / 10 / 10) = qb 7 (n / 10 / 10 / 10) ++ [UInt8.ofNat (48 + n / 10 / 10 % 10)] from if_neg (by omega)]
 rw [show qb 7 (n / 10 / 10 / 10) = qb 6 (n / 10 / 10 / 10 / 10) ++ [UInt8.ofNat (48 + n / 10 / 10 / 10 % 10)] from if_neg (by omega)]
 rw [show qb 6 (n / 10 / 10 / 10 / 10) = [UInt8.ofNat (48 + n / 10 / 10 / 10 / 10)] from if_pos (by omega)]
 simp only [List.cons_append, List.nil_append, List.cons.injEq, and_true]
 refine ⟨?_, ?_, ?_, ?_, ?_⟩ <;> exact kY (by omega)
theorem zuP (n : Nat) (h1 : 100000 <= n) (h2 : n < 1000000) : dec n = [dgt n 100000, dgt n 10000, dgt n 1000, dgt n 100, dgt n 10, dgt n 1] := by
 unfold dec
 rw [show qb 10 (n) = qb 9 (n / 10) ++ [UInt8.ofNat (48 + n % 10)] from if_neg (by omega)]
 rw [show qb 9 (n / 10) = qb 8 (n / 10 / 10) ++ [UInt8.ofNat (48 + n / 10 % 10)] from if_neg (by omega)]
 rw [show qb 8 (n / 10 / 10) = qb 7 (n / 10 / 10 / 10) ++ [UInt8.ofNat (48 + n / 10 / 10 % 10)] from if_neg (by omega)]
 rw [show qb 7 (n / 10 / 10 / 10) = qb 6 (n / 10 / 10 / 10 / 10) ++ [UInt8.ofNat (48 + n / 10 / 10 / 10 % 10)] from if_neg (by omega)]
 rw [show qb 6 (n / 10 / 10 / 10 / 10) = qb 5 (n / 10 / 10 / 10 / 10 / 10) ++ [UInt8.ofNat (48 + n / 10 / 10 / 10 / 10 % 10)] from if_neg (by omega)]
 rw [show qb 5 (n / 10 / 10 / 10 / 10 / 10) = [UInt8.ofNat (48 + n / 10 / 10 / 10 / 10 / 10)] from if_pos (by omega)]
 simp only [List.cons_append, List.nil_append, List.cons.injEq, and_true]
 refine ⟨?_, ?_, ?_, ?_, ?_, ?_⟩ <;> exact kY (by omega)
theorem zuz (n : Nat) (h1 : 1000000 <= n) (h2 : n < 10000000) : dec n = [dgt n 1000000, dgt n 100000, dgt n 10000, dgt n 1000, dgt n 100, dgt n 10, dgt n 1] := by
 unfold dec
 rw [show qb 10 (n) = qb 9 (n / 10) ++ [UInt8.ofNat (48 + n % 10)] from if_neg (by omega)]
 rw [show qb 9 (n / 10) = qb 8 (n / 10 / 10) ++ [UInt8.ofNat (48 + n / 10 % 10)] from if_neg (by omega)]
 rw [show qb 8 (n / 10 / 10) = qb 7 (n / 10 / 10 / 10) ++ [UInt8.ofNat (48 + n / 10 / 10 % 10)] from if_neg (by omega)]
 rw [show qb 7 (n / 10 / 10 / 10) = qb 6 (n / 10 / 10 / 10 / 10) ++ [UInt8.ofNat (48 + n / 10 / 10 / 10 % 10)] from if_neg (by omega)]
 rw [show qb 6 (n / 10 / 10 / 10 / 10) = qb 5 (n / 10 / 10 / 10 / 10 / 10) ++ [UInt8.ofNat (48 + n / 10 / 10 / 10 / 10 % 10)] from if_neg (by omega)]
 rw [show qb 5 (n / 10 / 10 / 10 / 10 / 10) = qb 4 (n / 10 / 10 / 10 / 10 / 10 / 10) ++ [UInt8.ofNat (48 + n / 10 / 10 / 10 / 10 / 10 % 10)] from if_neg (by omega)]
 rw [show qb 4 (n / 10 / 10 / 10 / 10 / 10 / 10) = [UInt8.ofNat (48 + n / 10 / 10 / 10 / 10 / 10 / 10)] from if_pos (by omega)]
 simp only [List.cons_append, List.nil_append, List.cons.injEq, and_true]
 refine ⟨?_, ?_, ?_, ?_, ?_, ?_, ?_⟩ <;> exact kY (by omega)
theorem zuy (n : Nat) (h1 : 10000000 <= n) (h2 : n < 100000000) : dec n = [dgt n 10000000, dgt n 1000000, dgt n 100000, dgt n 10000, dgt n 1000, dgt n 100, dgt n 10, dgt n 1] := by
 unfold dec
 rw [show qb 10 (n) = qb 9 (n / 10) ++ [UInt8.ofNat (48 + n % 10)] from if_neg (by omega)]
 rw [show qb 9 (n / 10) = qb 8 (n / 10 / 10) ++ [UInt8.ofNat (48 + n / 10 % 10)] from if_neg (by omega)]
 rw [show qb 8 (n / 10 / 10) = qb 7 (n / 10 / 10 / 10) ++ [UInt8.ofNat (48 + n / 10 / 10 % 10)] from if_neg (by omega)]
 rw [show qb 7 (n / 10 / 10 / 10) = qb 6 (n / 10 / 10 / 10 / 10) ++ [UInt8.ofNat (48 + n / 10 / 10 / 10 % 10)] from if_neg (by omega)]
 rw [show qb 6 (n / 10 / 10 / 10 / 10) = qb 5 (n / 10 / 10 / 10 / 10 / 10) ++ [UInt8.ofNat (48 + n / 10 / 10 / 10 / 10 % 10)] from if_neg (by omega)]
 rw [show qb 5 (n / 10 / 10 / 10 / 10 / 10) = qb 4 (n / 10 / 10 / 10 / 10 / 10 / 10) ++ [UInt8.ofNat (48 + n / 10 / 10 / 10 / 10 / 10 % 10)] from if_neg (by omega)]
 rw [show qb 4 (n / 10 / 10 / 10 / 10 / 10 / 10) = qb 3 (n / 10 / 10 / 10 / 10 / 10 / 10 / 10) ++ [UInt8.ofNat (48 + n / 10 / 10 / 10 / 10 / 10 / 10 % 10)] from if_neg (by omega)]
 rw [show qb 3 (n / 10 / 10 / 10 / 10 / 10 / 10 / 10) = [UInt8.ofNat (48 + n / 10 / 10 / 10 / 10 / 10 / 10 / 10)] from if_pos (by omega)]
 simp only [List.cons_append, List.nil_append, List.cons.injEq, and_true]
 refine ⟨?_, ?_, ?_, ?_, ?_, ?_, ?_, ?_⟩ <;> exact kY (by omega)
theorem zuB (n : Nat) (h1 : 100000000 <= n) (h2 : n < 1000000000) : dec n = [dgt n 100000000, dgt n 10000000, dgt n 1000000, dgt n 100000, dgt n 10000, dgt n 1000, dgt n 100, dgt n 10, dgt n 1] := by
 unfold dec
 rw [show qb 10 (n) = qb 9 (n / 10) ++ [UInt8.ofNat (48 + n % 10)] from if_neg (by omega)]
 rw [show qb 9 (n / 10) = qb 8 (n / 10 / 10) ++ [UInt8.ofNat (48 + n / 10 % 10)] from if_neg (by omega)]
 rw [show qb 8 (n / 10 / 10) = qb 7 (n / 10 / 10 / 10) ++ [UInt8.ofNat (48 + n / 10 / 10 % 10)] from if_neg (by omega)]
 rw [show qb 7 (n / 10 / 10 / 10) = qb 6 (n / 10 / 10 / 10 / 10) ++ [UInt8.ofNat (48 + n / 10 / 10 / 10 % 10)] from if_neg (by omega)]
 rw [show qb 6 (n / 10 / 10 / 10 / 10) = qb 5 (n / 10 / 10 / 10 / 10 / 10) ++ [UInt8.ofNat (48 + n / 10 / 10 / 10 / 10 % 10)] from if_neg (by omega)]
 rw [show qb 5 (n / 10 / 10 / 10 / 10 / 10) = qb 4 (n / 10 / 10 / 10 / 10 / 10 / 10) ++ [UInt8.ofNat (48 + n / 10 / 10 / 10 / 10 / 10 % 10)] from if_neg (by omega)]
 rw [show qb 4 (n / 10 / 10 / 10 / 10 / 10 / 10) = qb 3 (n / 10 / 10 / 10 / 10 / 10 / 10 / 10) ++ [UInt8.ofNat (48 + n / 10 / 10 / 10 / 10 / 10 / 10 % 10)] from if_neg (by omega)]
 rw [show qb 3 (n / 10 / 10 / 10 / 10 / 10 / 10 / 10) = qb 2 (n / 10 / 10 / 10 / 10 / 10 / 10 / 10 / 10) ++ [UInt8.ofNat (48 + n / 10 / 10 / 10 / 10 / 10 / 10 / 10 % 10)] from if_neg (by omega)]
 rw [show qb 2 (n / 10 / 10 / 10 / 10 / 10 / 10 / 10 / 10) = [UInt8.ofNat (48 + n / 10 / 10 / 10 / 10 / 10 / 10 / 10 / 10)] from if_pos (by omega)]
 simp only [List.cons_append, List.nil_append, List.cons.injEq, and_true]
 refine ⟨?_, ?_, ?_, ?_, ?_, ?_, ?_, ?_, ?_⟩ <;> exact kY (by omega)
theorem ztp (n : Nat) (h1 : 1000000000 <= n) (h2 : n < 10000000000) : dec n = [dgt n 1000000000, dgt n 100000000, dgt n 10000000, dgt n 1000000, dgt n 100000, dgt n 10000, dgt n 1000, dgt n 100, dgt n 10, dgt n 1] := by
 unfold dec
 rw [show qb 10 (n) = qb 9 (n / 10) ++ [UInt8.ofNat (48 + n % 10)] from if_neg (by omega)]
 rw [show qb 9 (n / 10) = qb 8 (n / 10 / 10) ++ [UInt8.ofNat (48 + n / 10 % 10)] from if_neg (by omega)]
 rw [show qb 8 (n / 10 / 10) = qb 7 (n / 10 / 10 / 10) ++ [UInt8.ofNat (48 + n / 10 / 10 % 10)] from if_neg (by omega)]
 rw [show qb 7 (n / 10 / 10 / 10) = qb 6 (n / 10 / 10 / 10 / 10) ++ [UInt8.ofNat (48 + n / 10 / 10 / 10 % 10)] from if_neg (by omega)]
 rw [show qb 6 (n / 10 / 10 / 10 / 10) = qb 5 (n / 10 / 10 / 10 / 10 / 10) ++ [UInt8.ofNat (48 + n / 10 / 10 / 10 / 10 % 10)] from if_neg (by omega)]
 rw [show qb 5 (n / 10 / 10 / 10 / 10 / 10) = qb 4 (n / 10 / 10 / 10 / 10 / 10 / 10) ++ [UInt8.ofNat (48 + n / 10 / 10 / 10 / 10 / 10 % 10)] from if_neg (by omega)]
 rw [show qb 4 (n / 10 / 10 / 10 / 10 / 10 / 10) = qb 3 (n / 10 / 10 / 10 / 10 / 10 / 10 / 10) ++ [UInt8.ofNat (48 + n / 10 / 10 / 10 / 10 / 10 / 10 % 10)] from if_neg (by omega)]
 rw [show qb 3 (n / 10 / 10 / 10 / 10 / 10 / 10 / 10) = qb 2 (n / 10 / 10 / 10 / 10 / 10 / 10 / 10 / 10) ++ [UInt8.ofNat (48 + n / 10 / 10 / 10 / 10 / 10 / 10 / 10 % 10)] from if_neg (by omega)]
 rw [show qb 2 (n / 10 / 10 / 10 / 10 / 10 / 10 / 10 / 10) = qb 1 (n / 10 / 10 / 10 / 10 / 10 / 10 / 10 / 10 / 10) ++ [UInt8.ofNat (48 + n / 10 / 10 / 10 / 10 / 10 / 10 / 10 / 10 % 10)] from if_neg (by omega)]
 rw [show qb 1 (n / 10 / 10 / 10 / 10 / 10 / 10 / 10 / 10 / 10) = [UInt8.ofNat (48 + n / 10 / 10 / 10 / 10 / 10 / 10 / 10 / 10 / 10)] from if_pos (by omega)]
 simp only [List.cons_append, List.nil_append, List.cons.injEq, and_true]
 refine ⟨?_, ?_, ?_, ?_, ?_, ?_, ?_, ?_, ?_, ?_⟩ <;> exact kY (by omega)
theorem zmQ (N : Nat) {n : Nat} (h : n < 100) : wL N ((n : Nat) : Int) = some (dec n, ()) := by
 have key : ((List.range 100).all fun n => decide (wL 0 ((n : Nat) : Int) = some (dec n, ()))) = true := by kernel_rfl
 rw [List.all_eq_true] at key
 exact of_decide_eq_true (key n (List.mem_range.2 h))
theorem zqI (N n : Nat) (hN : 10 <= N) (h : n < 4294967296) : zr N ((n : Nat) : Int) = some (dec n, ()) := by
 by_cases h0 : n < 100
 ·have c0 : decide (((n : Nat) : Int) < 100) = true := by simp; omega
  unfold zr
  simp only [zgt (show n < 18446744073709551616 by omega), c0, cond_true]
  rw [wri (by omega) (by omega), zmQ N h0]; rfl
 ·rcases (show (100 <= n /\ n < 1000) \/ (1000 <= n /\ n < 10000) \/ (10000 <= n /\ n < 100000) \/ (100000 <= n /\ n < 1000000) \/ (1000000 <= n /\ n < 10000000) \/ (10000000 <= n /\ n < 100000000) \/ (100000000 <= n /\ n < 1000000000) \/ (1000000000 <= n /\ n < 10000000000) by omega) with ⟨h1, h2⟩ | ⟨h1, h2⟩ | ⟨h1, h2⟩ | ⟨h1, h2⟩ | ⟨h1, h2⟩ | ⟨h1, h2⟩ | ⟨h1, h2⟩ | ⟨h1, h2⟩
  ·rw [zum n h1 h2]; exact zup N n hN h1 h2 h (zpI N n 3 (by omega) h (by omega) (by omega) h1 h2)
  ·rw [zuW n h1 h2]; exact zuE N n hN h1 h2 h (zpI N n 4 (by omega) h (by omega) (by omega) h1 h2)
  ·rw [zur n h1 h2]; exact zun N n hN h1 h2 h (zpI N n 5 (by omega) h (by omega) (by omega) h1 h2)
  ·rw [zuP n h1 h2]; exact zuZ N n hN h1 h2 h (zpI N n 6 (by omega) h (by omega) (by omega) h1 h2)
  ·rw [zuz n h1 h2]; exact zuA N n hN h1 h2 h (zpI N n 7 (by omega) h (by omega) (by omega) h1 h2)
  ·rw [zuy n h1 h2]; exact zuc N n hN h1 h2 h (zpI N n 8 (by omega) h (by omega) (by omega) h1 h2)
  ·rw [zuB n h1 h2]; exact zuJ N n hN h1 h2 h (zpI N n 9 (by omega) h (by omega) (by omega) h1 h2)
  ·rw [ztp n h1 h2]; exact ztv N n hN h1 h2 h (zpI N n 10 (by omega) h (by omega) (by omega) h1 h2)
theorem zoA (N n : Nat) (hN : 10 <= N) (h : n < 4294967296) : zr N ((n : Nat) : Int) = some (dec n, ()) := by
 exact zqI N n hN h
theorem zk2 : ∀ f n, (qb f n).length <= f
 | 0, n => by simp [qb]
 | f + 1, n => by
  unfold qb
  split
  ·simp
  ·have := zk2 f (n / 10); simp; omega
theorem ziE {k : Nat} (h : k < 10) : slice ([48, 49, 50, 51, 52, 53, 54, 55, 56, 57] : List UInt8) k (k + 1) = [UInt8.ofNat (48 + k)] := by
 have key : ((List.range 10).all fun k => slice ([48, 49, 50, 51, 52, 53, 54, 55, 56, 57] : List UInt8) k (k + 1) == [UInt8.ofNat (48 + k)]) = true := by kernel_rfl
 rw [List.all_eq_true] at key
 exact beq_iff_eq.1 (key k (List.mem_range.2 h))
theorem zrz (n : Nat) : Int.tmod ((n : Nat) : Int) 10 = ((n % 10 : Nat) : Int) := rfl
theorem zsN (n : Nat) : Int.tdiv ((n : Nat) : Int) 10 = ((n / 10 : Nat) : Int) := rfl
theorem zsO (N : Nat) : ∀ (f m n : Nat) (acc : List UInt8), n < 10 ^ f -> n < 4294967296 -> 0 < f -> f <= m -> acc.length + f <= 1000 -> ∃ (x : Nat) (ys : List UInt8), qd N m ((n : Nat) : Int) acc = some (((x : Nat) : Int), ys) /\ x < 10 /\ UInt8.ofNat (48 + x) :: ys = qb f n ++ acc /\ ys.length <= 1000
 | 0, m, n, acc, h, h', h0, hm, hl => by omega
 | f + 1, 0, n, acc, h, h', h0, hm, hl => by omega
 | f + 1, m + 1, n, acc, h, h', h0, hm, hl => by
  unfold qd kT
  by_cases hn : n < 10
  ·have c : decide ((10 : Int) <= ((n : Nat) : Int)) = false := by simp; omega
   simp only [c, cond_false]
   exact ⟨n, acc, rfl, hn, by unfold qb; rw [if_pos hn]; rfl, by omega⟩
  ·have c : decide ((10 : Int) <= ((n : Nat) : Int)) = true := by simp; omega
   have hk : n % 10 < 10 := by omega
   have hb := qT (a := n % 10) (b := n % 10 + 1) (n := 10) (by omega) (by omega)
   simp (disch := omega) only [c, cond_true, zrz, zsN, zfG, zlV, hb, Int.toNat_natCast, ziE]
   have c2 : decide (List.length [UInt8.ofNat (48 + n % 10)] + List.length acc < 4611686018427387904) = true := by simp; omega
   simp only [c2, cond_true]
   have hpos : 0 < f := by
    cases f with
    | zero => simp at h; omega
    | succ f => omega
   have hlt : n / 10 < 10 ^ f := by rw [Nat.pow_succ] at h; omega
   obtain ⟨x, ys, q1, q2, q3, q4⟩ := zsO N f m (n / 10) ([UInt8.ofNat (48 + n % 10)] ++ acc) hlt (by omega) hpos (by omega) (by simp; omega)
   exact ⟨x, ys, q1, q2, by
                rw [q3]; conv => rhs; unfold qb; rw [if_neg hn]
                simp, q4⟩
theorem zp9 (N n : Nat) (hN : 10 <= N) (h : n < 4294967296) : wy N ((n : Nat) : Int) = some (dec n, ()) := by
 obtain ⟨x, ys, q1, q2, q3, q4⟩ := zsO N 10 N n [] (by omega) h (by omega) (by omega) (by simp)
 unfold wy
 have hb := qT (a := x) (b := x + 1) (n := 10) (by omega) (by omega)
 simp (disch := omega) only [q1, Option.bind_some, zfG, zlV, hb, cond_true, Int.toNat_natCast, ziE]
 have c2 : decide (List.length [UInt8.ofNat (48 + x)] + List.length ys < 4611686018427387904) = true := by simp; omega
 rw [List.append_nil] at q3
 simp only [c2, cond_true, List.cons_append, List.nil_append, q3]; rfl
def zgc : Nat -> List UInt8 -> Option Nat
 | acc, [] => some acc
 | acc, c :: r => if 48 <= c.toNat /\ c.toNat <= 57 then zgc (acc * 10 + (c.toNat - 48)) r else none
theorem zmU : ∀ (l : List UInt8) (acc v : Nat), zgc acc l = some v -> acc <= v
 | [], acc, v, h => by cases h; omega
 | c :: r, acc, v, h => by
  unfold zgc at h
  split at h
  ·have := zmU r _ v h; omega
  ·cases h
theorem zmI : ∀ (l : List UInt8) (acc v k : Nat), zgc acc l = some v -> acc < 10 ^ k -> v < 10 ^ (k + l.length)
 | [], acc, v, k, h, hk => by cases h; simpa using hk
 | c :: r, acc, v, k, h, hk => by
  unfold zgc at h
  split at h
  ·have := zmI r _ v (k + 1) h (by rw [Nat.pow_succ]; omega)
   rwa [List.length_cons, show k + (r.length + 1) = k + 1 + r.length by omega]
  ·cases h
theorem zq4 (M : Nat) (hM : M < 1844674407370955162) : ∀ (l : List UInt8) (acc v : Nat), acc <= M -> zgc acc l = some v -> v <= M -> Go.Lib.parseUintM M acc l = .ok v
 | [], acc, v, ha, h, hv => by cases h; rfl
 | c :: r, acc, v, ha, h, hv => by
  unfold zgc at h
  split at h
  ·rename_i hc
   have := zmU r _ v h
   unfold Go.Lib.parseUintM
   rw [if_pos hc, if_neg (by omega), if_neg (by omega)]
   exact zq4 M hM r _ v (by omega) h hv
  ·cases h
theorem zpF (M : Nat) : ∀ (l : List UInt8) (acc v : Nat), acc <= M -> Go.Lib.parseUintM M acc l = .ok v -> zgc acc l = some v /\ v <= M
 | [], acc, v, ha, h => by cases h; exact ⟨rfl, ha⟩
 | c :: r, acc, v, ha, h => by
  unfold Go.Lib.parseUintM at h
  split at h
  ·rename_i hc
   split at h
   ·cases h
   ·split at h
    ·cases h
    ·unfold zgc
     rw [if_pos hc]
     exact zpF M r _ v (by omega) h
  ·cases h
def zdH (s : List UInt8) : Option Nat := match zgc 0 s with
 | some v => if v <= 4294967295 /\ dec v = s then some v else none
 | none => none
def zpm (s : List UInt8) : Option (Int × Bool × Unit) := some (match zdH s with
 | some v => (((v : Nat) : Int), true, ())
 | none => (0, false, ()))
theorem zn7 {s : List UInt8} {v : Nat} (h : zdH s = some v) : v <= 4294967295 := by
 unfold zdH at h
 split at h
 ·split at h
  ·rename_i hc; cases h; exact hc.1
  ·cases h
 ·cases h
theorem zqS (n : Nat) : (dec n).length <= 10 := zk2 10 n
theorem zkB {s : List UInt8} {v : Nat} (h : zdH s = some v) : s.length <= 10 := by
 unfold zdH at h
 split at h
 ·split at h
  ·rename_i hc; rw [<- hc.2]; exact zqS _
  ·cases h
 ·cases h
theorem zkM (N : Nat) (hN : 10 <= N) (s : List UInt8) (hs : s.length <= 100000) : wE N s = zpm s := by
 unfold wE zpm
 have hb : Nat.ble (List.length s) zlq = true := by rw [Nat.ble_eq]; unfold zlq; omega
 simp only [hb, cond_true]
 have bad : zdH s = none -> some ((0 : Int), false, ()) = some (match zdH s with
  | some v => (((v : Nat) : Int), true, ())
  | none => (0, false, ())) := fun h => by rw [h]
 rcases hp : Go.Lib.parseUintB 32 s with u | _ | _
 ·unfold Go.Lib.parseUintB at hp
  split at hp
  ·cases hp
  ·obtain ⟨h1, h2⟩ := zpF _ s 0 u (by omega) hp
   have h2 : u <= 4294967295 := h2
   simp only [zmN]
   rw [zlV (by omega), zoA N u hN (by omega)]
   simp only [Option.bind_some]
   unfold zdH
   simp only [h1]
   cases hd : dec u != s with
   | true =>
    have hd' : ¬ dec u = s := by simpa using hd
    rw [if_neg (fun h => hd' h.2)]; rfl
   | false =>
    have hd' : dec u = s := by simpa using hd
    rw [if_pos ⟨h2, hd'⟩]; rfl
 ·refine bad ?_
  unfold zdH
  split
  ·rename_i v hv
   rw [if_neg]
   intro ⟨h1, h2⟩
   unfold Go.Lib.parseUintB at hp
   split at hp
   ·rename_i he
    subst he
    have : (dec v).length = 0 := by rw [h2]; rfl
    unfold dec qb at this
    split at this <;> simp at this
   ·rw [zq4 _ (by decide) s 0 v (by omega) hv h1] at hp; cases hp
  ·rfl
 ·refine bad ?_
  unfold zdH
  split
  ·rename_i v hv
   rw [if_neg]
   intro ⟨h1, h2⟩
   unfold Go.Lib.parseUintB at hp
   split at hp
   ·cases hp
   ·rw [zq4 _ (by decide) s 0 v (by omega) hv h1] at hp; cases hp
  ·rfl
theorem zub (c : UInt8) : decide (c < (48 : UInt8)) = decide (c.toNat < 48) := by
 rw [decide_eq_decide]; exact UInt8.lt_iff_toNat_lt
theorem zuN (c : UInt8) : decide ((57 : UInt8) < c) = decide (57 < c.toNat) := by
 rw [decide_eq_decide]; exact UInt8.lt_iff_toNat_lt
theorem ztg {c : UInt8} (h : 48 <= c.toNat) : (c - 48).toNat = c.toNat - 48 := by
 have := c.toNat_lt
 rw [UInt8.toNat_sub]
 show (256 - 48 + c.toNat) % 256 = _
 omega
theorem zsn (N : Nat) (s : List UInt8) (hs : s.length <= 10) : ∀ (m i v : Nat), i <= s.length -> v < 10 ^ i -> s.length < m + i ->
  qm N m s ((v : Nat) : Int) ((i : Nat) : Int) = match zgc v (s.drop i) with
   | some w => some (Sum.inr (s, ((w : Nat) : Int)))
   | none => some (Sum.inl ())
 | 0, i, v, h, hv, h' => by omega
 | m + 1, i, v, h, hv, h' => by
  unfold qm xB
  by_cases hi : i < s.length
  ·simp only [zhE hi, cond_true, zX hi, Int.toNat_natCast, jK (u := .u8) hi, zub, zuN, drop_one hi, zgc]
   have hlt := s[i].toNat_lt
   by_cases h1 : s[i].toNat < 48
   ·simp only [decide_eq_true h1, cond_true]
    rw [if_neg (by omega)]
   ·simp only [decide_eq_false h1, cond_false]
    by_cases h2 : 57 < s[i].toNat
    ·simp only [decide_eq_true h2, cond_true]
     rw [if_neg (by omega)]
    ·simp only [decide_eq_false h2, cond_false]
     rw [if_pos ⟨by omega, by omega⟩, ztg (by omega)]
     have hp : 10 ^ i <= 10 ^ 9 := Nat.pow_le_pow_right (by omega) (by omega)
     have hp2 : (10 : Nat) ^ (i + 1) = 10 ^ i * 10 := Nat.pow_succ ..
     have e1 : IntKind.wrap .u64 ((IntKind.wrap .u64 ((10 : Int) * ((v : Nat) : Int))) + (IntKind.wrap .u64 (((s[i].toNat - 48 : Nat)) : Int))) = ((v * 10 + (s[i].toNat - 48) : Nat) : Int) := by
      rw [show (10 : Int) * ((v : Nat) : Int) = ((10 * v : Nat) : Int) from rfl, zgt (by omega), zgt (n := s[i].toNat - 48) (by omega), show ((10 * v : Nat) : Int) + ((s[i].toNat - 48 : Nat) : Int) = ((10 * v + (s[i].toNat - 48) : Nat) : Int) from rfl, zgt (by omega)]
      omega
     rw [e1, wri (by omega) (by omega), zfG]
     exact zsn N s hs m (i + 1) _ (by omega) (by omega) (by omega)
  ·simp only [zhF hi, cond_false]
   rw [List.drop_eq_nil_of_le (by omega)]
   rfl
theorem zme (N : Nat) (hN : 20 <= N) (s : List UInt8) : jX N s = zpm s := by
 unfold jX zpm
 by_cases hl : s.length <= 10
 ·have c : decide ((10 : Int) < ((s.length : Nat) : Int)) = false := by simp; omega
  have h := zsn N s hl N 0 0 (by omega) (by simp) (by omega)
  rw [show ((0 : Nat) : Int) = (0 : Int) from rfl, List.drop_zero] at h
  simp only [c, cond_false, h]
  unfold zdH
  cases hv : zgc 0 s with
  | none => rfl
  | some v =>
   simp only [Option.bind_some, zk]
   have hlt := zmI s 0 v 0 hv (by simp)
   have hp : 10 ^ (0 + s.length) <= 10 ^ 10 := Nat.pow_le_pow_right (by omega) (by omega)
   by_cases h1 : v <= 4294967295
   ·have c1 : decide ((4294967295 : Int) < ((v : Nat) : Int)) = false := by simp; omega
    simp only [c1, cond_false]
    rw [zlV (by omega), zp9 N v (by omega) (by omega)]
    simp only [Option.bind_some]
    cases hd : dec v != s with
    | true =>
     have hd' : ¬ dec v = s := by simpa using hd
     rw [if_neg (fun h => hd' h.2)]; rfl
    | false =>
     have hd' : dec v = s := by simpa using hd
     rw [if_pos ⟨h1, hd'⟩]; rfl
   ·have c1 : decide ((4294967295 : Int) < ((v : Nat) : Int)) = true := by simp; omega
    simp only [c1, cond_true]
    rw [if_neg (fun h => h1 h.1)]
 ·have c : decide ((10 : Int) < ((s.length : Nat) : Int)) = true := by simp; omega
  simp only [c, cond_true]
  cases hv : zdH s with
  | none => rfl
  | some v => exact absurd (zkB hv) hl
def posOf (c : UInt8) : List UInt8 -> Option Nat
 | [] => none
 | x :: l => if x == c then some 0 else match posOf c l with
  | some i => some (i + 1)
  | none => none
theorem zfT (c : UInt8) : ∀ (l : List UInt8) (k : Nat), jm c l k = match posOf c l with
  | some i => ((k + i : Nat) : Int)
  | none => -1
 | [], k => rfl
 | x :: l, k => by
  unfold posOf
  simp only [jm]
  cases x == c with
  | true => simp
  | false =>
   simp only [Bool.false_eq_true, if_false]
   rw [zfT c l (k + 1)]
   cases posOf c l with
   | none => rfl
   | some i => simp only; congr 1; omega
theorem qZ {c : UInt8} : ∀ {l : List UInt8} {i : Nat}, posOf c l = some i -> i < l.length /\ l[i]? = some c /\ ∀ j : Nat, j < i -> l[j]? ≠ some c
 | [], i, h => by cases h
 | x :: l, i, h => by
  unfold posOf at h
  cases hx : x == c with
  | true =>
   simp only [hx, if_true] at h
   cases h
   rw [beq_iff_eq] at hx
   subst hx
   exact ⟨by simp, rfl, fun j hj => by omega⟩
  | false =>
   have hx' : ¬ x = c := by simpa using hx
   simp only [hx, Bool.false_eq_true, if_false] at h
   split at h
   ·rename_i i' hi
    cases h
    obtain ⟨h1, h2, h3⟩ := qZ hi
    refine ⟨by simpa using h1, by simpa using h2, fun j hj => ?_⟩
    cases j with
    | zero => simpa using hx'
    | succ j => simpa using h3 j (by omega)
   ·cases h
theorem zgw {c : UInt8} : ∀ {l : List UInt8}, posOf c l = none -> ∀ j : Nat, l[j]? ≠ some c
 | [], h, j => by simp
 | x :: l, h, j => by
  unfold posOf at h
  cases hx : x == c with
  | true => simp only [hx, if_true] at h; cases h
  | false =>
   have hx' : ¬ x = c := by simpa using hx
   simp only [hx, Bool.false_eq_true, if_false] at h
   split at h
   ·cases h
   ·rename_i hn
    cases j with
    | zero => simpa using hx'
    | succ j => simpa using zgw hn j
theorem zb9 {α : Type} (l : List α) (a : Nat) : ze l a = l.drop a := by
 unfold ze; rw [Int.toNat_natCast]; exact xu
theorem zcK {α : Type} {a : Nat} {l : List α} (h : a <= l.length) : zY ((a : Nat) : Int) l = true := qT h (Nat.le_refl _)
theorem zo6 (N : Nat) (l : List UInt8) (h : l.length <= 100000) : qe N l = some (l, ()) := by
 unfold qe
 rw [zbB (by omega)]; rfl
def zrn (b : List UInt8) (i : Nat) : Option ((List UInt8) × Int × Bool × Unit) := match posOf 125 (b.drop (i + 1)) with
 | none => some ([], 0, false, ())
 | some k => match zdH (slice b (i + 1) (i + 1 + k)) with
  | none => some ([], 0, false, ())
  | some n => if n <= 65536 /\ b[i + 1 + k + 1]? = some 13 /\ b[i + 1 + k + 2]? = some 10 /\ i + 1 + k + 3 + n <= b.length then some (slice b (i + 1 + k + 3) (i + 1 + k + 3 + n), ((i + 1 + k + 3 + n : Nat) : Int), true, ()) else some ([], 0, false, ())
theorem zb0 {α : Type} {l : List α} {a b : Nat} : (slice l a b).length <= l.length := by
 unfold slice; rw [List.length_take, List.length_drop]; omega
theorem zph (N : Nat) (b : List UInt8) (hb : b.length <= 20000) (hN : 10 <= N) (i : Nat) (hi : i < b.length) (hc : b[i] = 123) : jo N b (i : Int) = zrn b i := by
 unfold jo zrn qX
 have d0 : decide ((i : Int) < 0) = false := by simp
 have d1 : decide (((b.length : Nat) : Int) <= (i : Int)) = false := by simp; omega
 have w1 : IntKind.wrap .i64 ((i : Int) + 1) = ((i + 1 : Nat) : Int) := by rw [wri (by omega) (by omega)]; omega
 have w2 : IntKind.wrap .i64 (((i + 1 : Nat) : Int) - 1) = (i : Int) := by rw [wri (by omega) (by omega)]; omega
 have hbe : zY ((i + 1 : Nat) : Int) b = true := zcK (by omega)
 simp only [d0, d1, cond_false, w1, w2, zX hi, cond_true, Int.toNat_natCast, jK (u := .u8) hi, hc, show ((123 : UInt8) == 123) = true from rfl, Bool.not_true, hbe, Bool.and_true, zb9, zfT, Option.bind_some]
 cases hp : posOf 125 (b.drop (i + 1)) with
 | none => simp only [show decide ((-1 : Int) < 0) = true from rfl, cond_true]
 | some k =>
  obtain ⟨q1, q2, q3⟩ := qZ hp
  rw [List.length_drop] at q1
  have w3 : IntKind.wrap .i64 (((k : Nat) : Int) + 1) = ((k + 1 : Nat) : Int) := by rw [wri (by omega) (by omega)]; omega
  have w4 : IntKind.wrap .i64 (((i + 1 : Nat) : Int) + ((k : Nat) : Int)) = ((i + 1 + k : Nat) : Int) := by rw [wri (by omega) (by omega)]; omega
  have w5 : IntKind.wrap .i64 (((i + 1 : Nat) : Int) + ((k + 1 : Nat) : Int)) = ((i + 1 + k + 1 : Nat) : Int) := by rw [wri (by omega) (by omega)]; omega
  have d2 : decide (((k : Nat) : Int) < 0) = false := by simp
  have hb2 : jw ((i + 1 : Nat) : Int) ((i + 1 + k : Nat) : Int) b.length = true := qT (by omega) (by omega)
  simp only [Nat.zero_add, d2, cond_false, w3, w4, w5, hb2, cond_true, Int.toNat_natCast]
  rw [zkM N hN _ (Nat.le_trans zb0 (by omega))]
  unfold zpm
  have hj : i + 1 + k < b.length := by omega
  generalize i + 1 + k = j at hj |-
  simp only [Option.bind_some]
  cases hn : zdH (slice b (i + 1) j) with
  | none => rfl
  | some n =>
   have hn2 := zn7 hn
   simp only [Bool.not_true, cond_false]
   by_cases c1 : n <= 65536
   ·have e1 : decide ((65536 : Int) < ((n : Nat) : Int)) = false := by simp; omega
    have d3 : decide (((j + 1 : Nat) : Int) < 0) = false := by simp; omega
    simp only [e1, cond_false, d3]
    by_cases c2 : j + 1 < b.length
    ·have e2 : decide (((b.length : Nat) : Int) <= ((j + 1 : Nat) : Int)) = false := by simp; omega
     have w6 : IntKind.wrap .i64 (((j + 1 : Nat) : Int) + 1) = ((j + 2 : Nat) : Int) := by rw [wri (by omega) (by omega)]; omega
     have w7 : IntKind.wrap .i64 (((j + 2 : Nat) : Int) - 1) = ((j + 1 : Nat) : Int) := by rw [wri (by omega) (by omega)]; omega
     have d4 : decide (((j + 2 : Nat) : Int) < 0) = false := by simp; omega
     simp only [e2, cond_false, w6, w7, zX c2, cond_true, Int.toNat_natCast, jK (u := .u8) c2, List.getElem?_eq_getElem c2, Option.some.injEq, d4]
     cases h13 : b[j + 1] == (13 : UInt8) with
     | false =>
      have h13' : ¬ b[j + 1] = 13 := by simpa using h13
      simp only [Bool.not_false, cond_true]
      rw [if_neg (fun h => h13' h.2.1)]
     | true =>
      have h13' : b[j + 1] = 13 := by simpa using h13
      simp only [Bool.not_true, cond_false, h13', true_and]
      by_cases c3 : j + 2 < b.length
      ·have e3 : decide (((b.length : Nat) : Int) <= ((j + 2 : Nat) : Int)) = false := by simp; omega
       have w8 : IntKind.wrap .i64 (((j + 2 : Nat) : Int) + 1) = ((j + 3 : Nat) : Int) := by rw [wri (by omega) (by omega)]; omega
       have w9 : IntKind.wrap .i64 (((j + 3 : Nat) : Int) - 1) = ((j + 2 : Nat) : Int) := by rw [wri (by omega) (by omega)]; omega
       have w10 : IntKind.wrap .i64 ((n : Nat) : Int) = ((n : Nat) : Int) := wri (by omega) (by omega)
       have w11 : IntKind.wrap .i64 (((j + 3 : Nat) : Int) + ((n : Nat) : Int)) = ((j + 3 + n : Nat) : Int) := by rw [wri (by omega) (by omega)]; omega
       have w12 : IntKind.wrap .i64 (((b.length : Nat) : Int) - ((j + 3 : Nat) : Int)) = ((b.length : Nat) : Int) - ((j + 3 : Nat) : Int) := wri (by omega) (by omega)
       simp only [e3, cond_false, w8, w9, zX c3, cond_true, Int.toNat_natCast, jK (u := .u8) c3, List.getElem?_eq_getElem c3, Option.some.injEq, w10, w11, w12]
       cases h10 : b[j + 2] == (10 : UInt8) with
       | false =>
        have h10' : ¬ b[j + 2] = 10 := by simpa using h10
        simp only [Bool.not_false, cond_true]
        rw [if_neg (fun h => h10' h.2.1)]
       | true =>
        have h10' : b[j + 2] = 10 := by simpa using h10
        simp only [Bool.not_true, cond_false, h10', true_and]
        by_cases c4 : j + 3 + n <= b.length
        ·have e4 : decide (((b.length : Nat) : Int) - ((j + 3 : Nat) : Int) < ((n : Nat) : Int)) = false := by simp only [decide_eq_false_iff_not]; omega
         have hb3 : jw ((j + 3 : Nat) : Int) ((j + 3 + n : Nat) : Int) b.length = true := qT (by omega) (by omega)
         simp only [e4, cond_false, hb3, cond_true]
         rw [zo6 N _ (Nat.le_trans zb0 (by omega)), if_pos ⟨c1, c4⟩]; rfl
        ·have e4 : decide (((b.length : Nat) : Int) - ((j + 3 : Nat) : Int) < ((n : Nat) : Int)) = true := by simp only [decide_eq_true_eq]; omega
         simp only [e4, cond_true]
         rw [if_neg (fun h => c4 h.2)]
      ·have e3 : decide (((b.length : Nat) : Int) <= ((j + 2 : Nat) : Int)) = true := by simp; omega
       have n3 : b[j + 2]? = none := List.getElem?_eq_none (by omega)
       simp only [e3, cond_true, n3]
       rw [if_neg (fun h => by cases h.2.1)]
    ·have e2 : decide (((b.length : Nat) : Int) <= ((j + 1 : Nat) : Int)) = true := by simp; omega
     have n2 : b[j + 1]? = none := List.getElem?_eq_none (by omega)
     simp only [e2, cond_true, n2]
     rw [if_neg (fun h => by cases h.2.1)]
   ·have e1 : decide ((65536 : Int) < ((n : Nat) : Int)) = true := by simp; omega
    simp only [e1, cond_true]
    rw [if_neg (fun h => c1 h.1)]
theorem zrS (N : Nat) (b : List UInt8) (hb : b.length <= 20000) (i : Nat) : ∀ (m p : Nat), i < p -> p <= i + 13 -> p <= b.length -> b.length < m + p ->
  ∃ r : Nat, p <= r /\ r <= b.length /\ zM N m b ((i : Nat) : Int) ((p : Nat) : Int) = some (b, ((i : Nat) : Int), ((r : Nat) : Int)) /\ (∀ q, p <= q -> q < r -> b[q]? ≠ some 125) /\ (r = b.length \/ b[r]? = some 125 \/ r = i + 13)
 | 0, p, h1, h2, h3, h4 => by omega
 | m + 1, p, h1, h2, h3, h4 => by
  unfold zM wh
  by_cases hi : p < b.length
  ·simp only [zhE hi, cond_true, zX hi, Int.toNat_natCast, jK (u := .u8) hi]
   cases hc : b[p] != (125 : UInt8) with
   | false =>
    have hc' : b[p] = 125 := by simpa using hc
    simp only [cond_false]
    exact ⟨p, Nat.le_refl _, by omega, rfl, fun q h5 h6 => by omega, .inr (.inl (by rw [List.getElem?_eq_getElem hi, hc']))⟩
   | true =>
    have hc' : ¬ b[p] = 125 := by simpa using hc
    have w : IntKind.wrap .i64 (((p : Nat) : Int) - ((i : Nat) : Int)) = ((p : Nat) : Int) - ((i : Nat) : Int) := wri (by omega) (by omega)
    simp only [cond_true, w]
    by_cases hp : p <= i + 12
    ·have e : decide (((p : Nat) : Int) - ((i : Nat) : Int) <= 12) = true := by simp only [decide_eq_true_eq]; omega
     have w1 : IntKind.wrap .i64 (((p : Nat) : Int) + 1) = ((p + 1 : Nat) : Int) := by rw [wri (by omega) (by omega)]; omega
     simp only [e, cond_true, w1]
     obtain ⟨r, q1, q2, q3, q4, q5⟩ := zrS N b hb i m (p + 1) (by omega) (by omega) (by omega) (by omega)
     refine ⟨r, by omega, q2, q3, fun q h5 h6 => ?_, q5⟩
     by_cases hq : q = p
     ·subst hq; rw [List.getElem?_eq_getElem hi]; simpa using hc'
     ·exact q4 q (by omega) h6
    ·have e : decide (((p : Nat) : Int) - ((i : Nat) : Int) <= 12) = false := by simp only [decide_eq_false_iff_not]; omega
     simp only [e, cond_false]
     exact ⟨p, Nat.le_refl _, by omega, rfl, fun q h5 h6 => by omega, .inr (.inr (by omega))⟩
  ·simp only [zhF hi, cond_false]
   exact ⟨p, Nat.le_refl _, by omega, rfl, fun q h5 h6 => by omega, .inl (by omega)⟩
theorem zqv (N : Nat) (b : List UInt8) (hb : b.length <= 20000) (hN : 20 <= N) (hN2 : b.length < N) (i : Nat) (hi : i < b.length) (hc : b[i] = 123) : jk N b (i : Int) = zrn b i := by
 unfold jk zrn
 have d0 : decide ((i : Int) < 0) = false := by simp
 have d1 : decide (((b.length : Nat) : Int) <= (i : Int)) = false := by simp; omega
 have w1 : IntKind.wrap .i64 ((i : Int) + 1) = ((i + 1 : Nat) : Int) := by rw [wri (by omega) (by omega)]; omega
 obtain ⟨r, q1, q2, q3, q4, q5⟩ := zrS N b hb i N (i + 1) (by omega) (by omega) (by omega) (by omega)
 simp only [d0, d1, cond_false, w1, zX hi, cond_true, Int.toNat_natCast, jK (u := .u8) hi, hc, show ((123 : UInt8) != 123) = false from rfl, q3, Option.bind_some]
 have bad : (∀ k, posOf 125 (b.drop (i + 1)) = some k -> 12 < k) -> (match posOf 125 (b.drop (i + 1)) with
   | none => some (([] : List UInt8), (0 : Int), false, ())
   | some k => match zdH (slice b (i + 1) (i + 1 + k)) with
    | none => some ([], 0, false, ())
    | some n => if n <= 65536 /\ b[i + 1 + k + 1]? = some 13 /\ b[i + 1 + k + 2]? = some 10 /\ i + 1 + k + 3 + n <= b.length then some (slice b (i + 1 + k + 3) (i + 1 + k + 3 + n), ((i + 1 + k + 3 + n : Nat) : Int), true, ()) else some ([], 0, false, ())) = some ([], 0, false, ()) := by
  intro h
  split
  ·rfl
  ·rename_i k hk
   have h12 := h k hk
   obtain ⟨s1, s2, s3⟩ := qZ hk
   rw [List.length_drop] at s1
   split
   ·rfl
   ·rename_i n hn
    have := zkB hn
    unfold slice at this
    rw [List.length_take, List.length_drop] at this
    omega
 by_cases hr : r = b.length
 ·have e : decide (((b.length : Nat) : Int) <= ((r : Nat) : Int)) = true := by simp; omega
  simp only [e, cond_true]
  refine (bad fun k hk => ?_).symm
  obtain ⟨s1, s2, s3⟩ := qZ hk
  rw [List.length_drop] at s1
  rw [List.getElem?_drop] at s2
  exact absurd s2 (q4 (i + 1 + k) (by omega) (by omega))
 ·have e : decide (((b.length : Nat) : Int) <= ((r : Nat) : Int)) = false := by simp; omega
  have hlt : r < b.length := by omega
  simp only [e, cond_false, zX hlt, cond_true, jK (u := .u8) hlt]
  cases h125 : b[r] != (125 : UInt8) with
  | true =>
   have h125' : ¬ b[r] = 125 := by simpa using h125
   simp only [cond_true]
   have hr13 : r = i + 13 := by
    rcases q5 with h | h | h
    ·omega
    ·rw [List.getElem?_eq_getElem hlt] at h; exact absurd (Option.some.inj h) h125'
    ·exact h
   refine (bad fun k hk => ?_).symm
   obtain ⟨s1, s2, s3⟩ := qZ hk
   rw [List.length_drop] at s1
   rw [List.getElem?_drop] at s2
   by_cases hk2 : 12 < k
   ·exact hk2
   ·by_cases hk3 : i + 1 + k = r
    ·rw [hk3, List.getElem?_eq_getElem hlt] at s2
     exact absurd (Option.some.inj s2) h125'
    ·exact absurd s2 (q4 (i + 1 + k) (by omega) (by omega))
  | false =>
   have h125' : b[r] = 125 := by simpa using h125
   obtain ⟨k, hk⟩ : ∃ k, r = i + 1 + k := ⟨r - (i + 1), by omega⟩
   have hpos : posOf 125 (b.drop (i + 1)) = some k := by
    cases hp : posOf 125 (b.drop (i + 1)) with
    | none =>
     have := zgw hp k
     rw [List.getElem?_drop, <- hk, List.getElem?_eq_getElem hlt, h125'] at this
     exact absurd rfl this
    | some k' =>
     obtain ⟨s1, s2, s3⟩ := qZ hp
     rw [List.length_drop] at s1
     rw [List.getElem?_drop] at s2
     by_cases h1 : k' < k
     ·exact absurd s2 (q4 (i + 1 + k') (by omega) (by omega))
     ·by_cases h2 : k < k'
      ·have := s3 k h2
       rw [List.getElem?_drop, <- hk, List.getElem?_eq_getElem hlt, h125'] at this
       exact absurd rfl this
      ·rw [show k' = k by omega]
   simp only [hpos]
   rw [<- hk]
   have hb2 : jw ((i + 1 : Nat) : Int) ((r : Nat) : Int) b.length = true := qT (by omega) (by omega)
   simp only [cond_false, hb2, Bool.and_true, cond_true]
   rw [zme N hN]
   unfold zpm
   simp only [Option.bind_some]
   clear bad q5 q4 q3 hpos
   cases hn : zdH (slice b (i + 1) r) with
   | none => rfl
   | some n =>
    have hn2 := zn7 hn
    have w3 : IntKind.wrap .i64 (((r : Nat) : Int) + 3) = ((r + 3 : Nat) : Int) := by rw [wri (by omega) (by omega)]; omega
    have w4 : IntKind.wrap .i64 (((r : Nat) : Int) + 1) = ((r + 1 : Nat) : Int) := by rw [wri (by omega) (by omega)]; omega
    have w5 : IntKind.wrap .i64 (((r : Nat) : Int) + 2) = ((r + 2 : Nat) : Int) := by rw [wri (by omega) (by omega)]; omega
    have w10 : IntKind.wrap .i64 ((n : Nat) : Int) = ((n : Nat) : Int) := wri (by omega) (by omega)
    have w11 : IntKind.wrap .i64 (((r + 3 : Nat) : Int) + ((n : Nat) : Int)) = ((r + 3 + n : Nat) : Int) := by rw [wri (by omega) (by omega)]; omega
    have w12 : IntKind.wrap .i64 (((b.length : Nat) : Int) - ((r + 3 : Nat) : Int)) = ((b.length : Nat) : Int) - ((r + 3 : Nat) : Int) := wri (by omega) (by omega)
    simp only [Bool.not_true, cond_false, w3, w4, w5, w10, w11, w12]
    by_cases c1 : n <= 65536
    ·have e1 : decide ((65536 : Int) < ((n : Nat) : Int)) = false := by simp; omega
     simp only [e1, cond_false]
     by_cases c2 : r + 3 <= b.length
     ·have e2 : decide (((b.length : Nat) : Int) < ((r + 3 : Nat) : Int)) = false := by simp; omega
      have l1 : r + 1 < b.length := by omega
      have l2 : r + 2 < b.length := by omega
      simp only [e2, cond_false, zX l1, zX l2, cond_true, Int.toNat_natCast, jK (u := .u8) l1, jK (u := .u8) l2, List.getElem?_eq_getElem l1, List.getElem?_eq_getElem l2, Option.some.injEq]
      cases h13 : b[r + 1] != (13 : UInt8) with
      | true =>
       have h13' : ¬ b[r + 1] = 13 := by simpa using h13
       simp only [cond_true]
       rw [if_neg (fun h => h13' h.2.1)]
      | false =>
       have h13' : b[r + 1] = 13 := by simpa using h13
       simp only [cond_false, h13', true_and]
       cases h10 : b[r + 2] != (10 : UInt8) with
       | true =>
        have h10' : ¬ b[r + 2] = 10 := by simpa using h10
        simp only [cond_true]
        rw [if_neg (fun h => h10' h.2.1)]
       | false =>
        have h10' : b[r + 2] = 10 := by simpa using h10
        simp only [cond_false, h10', true_and]
        by_cases c4 : r + 3 + n <= b.length
        ·have e4 : decide (((b.length : Nat) : Int) - ((r + 3 : Nat) : Int) < ((n : Nat) : Int)) = false := by simp only [decide_eq_false_iff_not]; omega
         have hb3 : jw ((r + 3 : Nat) : Int) ((r + 3 + n : Nat) : Int) b.length = true := qT (by omega) (by omega)
         have hsl : (slice b (r + 3) (r + 3 + n)).length <= b.length := zb0
         simp only [e4, cond_false, hb3, cond_true, zbB (show 0 + (slice b (r + 3) (r + 3 + n)).length <= 200000 by omega), List.nil_append]
         rw [if_pos ⟨c1, c4⟩]
        ·have e4 : decide (((b.length : Nat) : Int) - ((r + 3 : Nat) : Int) < ((n : Nat) : Int)) = true := by simp only [decide_eq_true_eq]; omega
         simp only [e4, cond_true]
         rw [if_neg (fun h => c4 h.2)]
     ·have e2 : decide (((b.length : Nat) : Int) < ((r + 3 : Nat) : Int)) = true := by simp; omega
      simp only [e2, cond_true]
      rw [if_neg (fun h => c2 (by omega))]
    ·have e1 : decide ((65536 : Int) < ((n : Nat) : Int)) = true := by simp; omega
     simp only [e1, cond_true]
     rw [if_neg (fun h => c1 h.1)]
abbrev Tok := Int × (List UInt8 × Int)
def ja (b : List UInt8) (i : Nat) : Option (Tok × Nat) :=
 match b[i]? with
 | none => some ((0, [], (i : Int)), i)
 | some c =>
  if c = 32 then some ((1, [], (i : Int)), i + 1)
  else if c = 40 then some ((2, [], (i : Int)), i + 1)
  else if c = 41 then some ((3, [], (i : Int)), i + 1)
  else if c = 34 then match sq (b.drop (i + 1)) with
   | some (r, n) => some ((5, r, (i : Int)), i + 1 + n)
   | none => none
  else if c = 123 then match posOf 125 (b.drop (i + 1)) with
   | none => none
   | some k => match zdH (slice b (i + 1) (i + 1 + k)) with
    | none => none
    | some n => if n <= 65536 /\ b[i + 1 + k + 1]? = some 13 /\ b[i + 1 + k + 2]? = some 10 /\ i + 1 + k + 3 + n <= b.length then some ((6, slice b (i + 1 + k + 3) (i + 1 + k + 3 + n), (i : Int)), i + 1 + k + 3 + n) else none
  else if 0 < run ql (b.drop i) then some ((4, slice b i (i + run ql (b.drop i)), (i : Int)), i + run ql (b.drop i))
  else none
theorem zhr {b : List UInt8} {i n : Nat} {t : Tok} (hi : i < b.length) (h : ja b i = some (t, n)) : i < n /\ n <= b.length := by
 unfold ja at h
 rw [List.getElem?_eq_getElem hi] at h
 simp only at h
 split at h
 ·cases h; omega
 ·split at h
  ·cases h; omega
  ·split at h
   ·cases h; omega
   ·split at h
    ·split at h
     ·rename_i r k hr
      have := zkV _ hr
      rw [List.length_drop] at this
      cases h; omega
     ·cases h
    ·split at h
     ·split at h
      ·cases h
      ·rename_i k hk
       split at h
       ·cases h
       ·split at h
        ·rename_i hc
         cases h; omega
        ·cases h
     ·split at h
      ·have := zgD ql (b.drop i)
       rw [List.length_drop] at this
       cases h; omega
      ·cases h
theorem znK {b : List UInt8} {i : Nat} (hi : i < b.length) (hc : b[i] = 34) : zrp b i = match sq (b.drop (i + 1)) with
  | some (r, n) => some (r, ((i + 1 + n : Nat) : Int), true, ())
  | none => some ([], 0, false, ()) := by
 unfold zrp
 rw [List.getElem?_eq_getElem hi, hc, if_pos rfl]
 cases sq (b.drop (i + 1)) with
 | none => rfl
 | some p => obtain ⟨r, n⟩ := p; rfl
theorem zrY (N : Nat) (b : List UInt8) (hb : b.length <= 20000) (i : Nat) : ∀ (m p : Nat), p <= b.length -> b.length < m + p ->
  qf N m ((i : Nat) : Int) b ((p : Nat) : Int) = some (((i : Nat) : Int), b, ((p + run ql (b.drop p) : Nat) : Int))
 | 0, p, h, h' => by omega
 | m + 1, p, h, h' => by
  unfold qf kR
  by_cases hi : p < b.length
  ·simp only [zhE hi, cond_true, zX hi, Int.toNat_natCast, jK (u := .u8) hi, zta, Option.bind_some, drop_one hi, run]
   cases hc : ql b[p] with
   | true =>
    simp only [cond_true, if_true]
    rw [wri (by omega) (by omega), show ((p : Int) + 1) = ((p + 1 : Nat) : Int) by omega, zrY N b hb i m (p + 1) (by omega) (by omega)]
    congr 4; omega
   | false => simp
  ·simp only [zhF hi, cond_false]
   rw [List.drop_eq_nil_of_le (by omega)]
   simp [run]
theorem zpR (N : Nat) (b : List UInt8) (hb : b.length <= 20000) (i : Nat) : ∀ (m p : Nat), p <= b.length -> b.length < m + p ->
  jc N m b ((i : Nat) : Int) ((p : Nat) : Int) = some (b, ((i : Nat) : Int), ((p + run ql (b.drop p) : Nat) : Int))
 | 0, p, h, h' => by omega
 | m + 1, p, h, h' => by
  unfold jc za0
  by_cases hi : p < b.length
  ·simp only [zhE hi, cond_true, zX hi, Int.toNat_natCast, jK (u := .u8) hi, ztn, Option.bind_some, drop_one hi, run]
   cases hc : ql b[p] with
   | true =>
    simp only [cond_true, if_true]
    rw [wri (by omega) (by omega), show ((p : Int) + 1) = ((p + 1 : Nat) : Int) by omega, zpR N b hb i m (p + 1) (by omega) (by omega)]
    congr 4; omega
   | false => simp
  ·simp only [zhF hi, cond_false]
   rw [List.drop_eq_nil_of_le (by omega)]
   simp [run]
theorem zo5 (N : Nat) (b : List UInt8) (hb : b.length <= 20000) (hN : 20 <= N) (hN2 : b.length < N) (i : Nat) (hi : i <= b.length) : (∀ t n, ja b i = some (t, n) -> kI N b (i : Int) = some (t, ((n : Nat) : Int), true, ())) /\ (ja b i = none -> ∃ t n, kI N b (i : Int) = some (t, n, false, ())) := by
 unfold kI ja
 by_cases he : i = b.length
 ·subst he
  rw [List.getElem?_eq_none (Nat.le_refl _)]
  simp only [show (((b.length : Nat) : Int) == ((b.length : Nat) : Int)) = true from beq_self_eq_true _, cond_true]
  exact ⟨fun t n h => by cases h; rfl, fun h => by cases h⟩
 ·have hlt : i < b.length := by omega
  have e : (((i : Nat) : Int) == ((b.length : Nat) : Int)) = false := by simp; omega
  have w1 : IntKind.wrap .i64 ((i : Int) + 1) = ((i + 1 : Nat) : Int) := by rw [wri (by omega) (by omega)]; omega
  rw [List.getElem?_eq_getElem hlt]
  simp only [e, cond_false, zX hlt, cond_true, Int.toNat_natCast, jK (u := .u8) hlt, w1]
  cases h1 : b[i] == (32 : UInt8) with
  | true =>
   rw [beq_iff_eq] at h1
   rw [if_pos h1]
   exact ⟨fun t n h => by cases h; rfl, fun h => by cases h⟩
  | false =>
   have h1' : ¬ b[i] = 32 := by simpa using h1
   rw [if_neg h1']
   cases h2 : b[i] == (40 : UInt8) with
   | true =>
    rw [beq_iff_eq] at h2
    rw [if_pos h2]
    exact ⟨fun t n h => by cases h; rfl, fun h => by cases h⟩
   | false =>
    have h2' : ¬ b[i] = 40 := by simpa using h2
    rw [if_neg h2']
    cases h3 : b[i] == (41 : UInt8) with
    | true =>
     rw [beq_iff_eq] at h3
     rw [if_pos h3]
     exact ⟨fun t n h => by cases h; rfl, fun h => by cases h⟩
    | false =>
     have h3' : ¬ b[i] = 41 := by simpa using h3
     rw [if_neg h3']
     cases h4 : b[i] == (34 : UInt8) with
     | true =>
      rw [beq_iff_eq] at h4
      rw [if_pos h4]
      simp only [cond_false, cond_true, zq6 N b (by omega) hN2 i hlt, znK hlt h4]
      cases hs : sq (b.drop (i + 1)) with
      | none => exact ⟨fun t n h => (by cases h), fun h => ⟨_, _, rfl⟩⟩
      | some p => obtain ⟨r, n⟩ := p; exact ⟨fun t n h => by cases h; rfl, fun h => by cases h⟩
     | false =>
      have h4' : ¬ b[i] = 34 := by simpa using h4
      rw [if_neg h4']
      cases h5 : b[i] == (123 : UInt8) with
      | true =>
       rw [beq_iff_eq] at h5
       rw [if_pos h5]
       simp only [cond_false, cond_true, zqv N b hb hN hN2 i hlt h5]
       unfold zrn
       cases hp : posOf 125 (b.drop (i + 1)) with
       | none => exact ⟨fun t n h => (by cases h), fun h => ⟨_, _, rfl⟩⟩
       | some k =>
        cases hv : zdH (slice b (i + 1) (i + 1 + k)) with
        | none =>
         simp only [hv]
         exact ⟨fun t n h => (by cases h), fun h => ⟨_, _, rfl⟩⟩
        | some n =>
         simp only [hv]
         by_cases hc : n <= 65536 /\ b[i + 1 + k + 1]? = some 13 /\ b[i + 1 + k + 2]? = some 10 /\ i + 1 + k + 3 + n <= b.length
         ·rw [if_pos hc, if_pos hc]
          exact ⟨fun t n h => by cases h; rfl, fun h => by cases h⟩
         ·rw [if_neg hc, if_neg hc]
          exact ⟨fun t n h => (by cases h), fun h => ⟨_, _, rfl⟩⟩
      | false =>
       have h5' : ¬ b[i] = 123 := by simpa using h5
       rw [if_neg h5']
       have hr := zgD ql (b.drop i)
       rw [List.length_drop] at hr
       simp only [cond_false, zpR N b hb i N i (by omega) (by omega), Option.bind_some]
       generalize run ql (b.drop i) = r at hr |-
       have hbn : jw ((i : Nat) : Int) ((i + r : Nat) : Int) b.length = true := qT (by omega) (by omega)
       simp only [hbn, Bool.and_true, cond_true, Int.toNat_natCast]
       by_cases h0 : 0 < r
       ·rw [if_pos h0]
        have : decide (((i : Nat) : Int) < ((i + r : Nat) : Int)) = true := by simp; omega
        rw [this]
        exact ⟨fun t n h => by cases h; rfl, fun h => by cases h⟩
       ·rw [if_neg h0]
        have : decide (((i : Nat) : Int) < ((i + r : Nat) : Int)) = false := by simp; omega
        rw [this]
        exact ⟨fun t n h => (by cases h), fun h => ⟨_, _, rfl⟩⟩
def jH (b : List UInt8) : Nat -> Nat -> List Tok ⊕ Nat
 | 0, i => .inr i
 | f + 1, i => match ja b i with
  | none => .inr i
  | some (t, n) => if b.length <= i then .inl [t] else match jH b f n with
   | .inl l => .inl (t :: l)
   | .inr a => .inr a
theorem zss {b : List UInt8} {i n : Nat} {t : Tok} (h : ja b i = some (t, n)) : t.1 = 0 ↔ b.length <= i := by
 unfold ja at h
 by_cases hi : i < b.length
 ·rw [List.getElem?_eq_getElem hi] at h
  simp only at h
  constructor
  ·intro h0
   exfalso
   split at h
   ·cases h; simp at h0
   ·split at h
    ·cases h; simp at h0
    ·split at h
     ·cases h; simp at h0
     ·split at h
      ·split at h <;> cases h; simp at h0
      ·split at h
       ·split at h
        ·cases h
        ·split at h
         ·cases h
         ·split at h <;> cases h; simp at h0
       ·split at h <;> cases h; simp at h0
  ·intro; omega
 ·rw [List.getElem?_eq_none (by omega)] at h
  cases h
  exact ⟨fun _ => by omega, fun _ => rfl⟩
def zpX (o : List Tok ⊕ Nat) : Option ((List Tok) × Int × Unit) := some (match o with
 | .inl l => (l, -1, ())
 | .inr a => ([], ((a : Nat) : Int), ()))
theorem zpE (N : Nat) (b : List UInt8) (hb : b.length <= 20000) (hN : 20 <= N) (hN2 : b.length < N) : ∀ (m i : Nat) (out : List Tok), i <= b.length -> out.length <= i -> b.length < m + i ->
  zL N m b ((i : Nat) : Int) out = (match jH b m i with
   | .inl l => some (Sum.inr (out ++ l))
   | .inr a => zL N m b ((i : Nat) : Int) out) /\ (∀ a, jH b m i = .inr a -> ∃ o, zL N m b ((i : Nat) : Int) out = some (Sum.inl (((a : Nat) : Int), o)))
 | 0, i, out, h, ho, h' => by omega
 | m + 1, i, out, h, ho, h' => by
  obtain ⟨n1, n2⟩ := zo5 N b hb hN hN2 i h
  unfold zL kQ jH
  cases hn : ja b i with
  | none =>
   obtain ⟨t, n, h3⟩ := n2 hn
   simp only [h3, Option.bind_some, Bool.not_false, cond_true]
   exact ⟨trivial, fun a ha => by cases ha; exact ⟨_, rfl⟩⟩
  | some p =>
   obtain ⟨t, n⟩ := p
   have h3 := n1 t n hn
   have hk := zss hn
   simp only [h3, Option.bind_some, Bool.not_true, cond_false, zbB (show out.length + 1 <= 200000 by omega), cond_true]
   by_cases hi : b.length <= i
   ·rw [if_pos hi]
    have : (t.1 == (0 : Int)) = true := by rw [beq_iff_eq]; exact hk.2 hi
    simp only [this, cond_true]
    exact ⟨by first | trivial | rfl, fun a ha => by cases ha⟩
   ·rw [if_neg hi]
    have h0 : (t.1 == (0 : Int)) = false := by
     cases e : t.1 == (0 : Int) with
     | false => rfl
     | true => rw [beq_iff_eq] at e; exact absurd (hk.1 e) hi
    have hl := zhr (by omega) hn
    obtain ⟨q1, q2⟩ := zpE N b hb hN hN2 m n (out ++ [t]) (by omega) (by simp; omega) (by omega)
    simp only [h0, cond_false]
    cases hr : jH b m n with
    | inl l =>
     rw [hr] at q1
     simp only at q1 |-
     refine ⟨?_, fun a ha => by cases ha⟩
     rw [q1, List.append_assoc]; rfl
    | inr a =>
     simp only
     exact ⟨trivial, fun a' ha => by cases ha; exact q2 a hr⟩
theorem zhv (N : Nat) (b : List UInt8) (hb : b.length <= 20000) (hN : 20 <= N) (hN2 : b.length < N) : j2 N b = zpX (jH b N 0) := by
 unfold j2 zpX
 obtain ⟨q1, q2⟩ := zpE N b hb hN hN2 N 0 [] (by omega) (by simp) (by omega)
 rw [show ((0 : Nat) : Int) = (0 : Int) from rfl] at q1 q2
 cases hr : jH b N 0 with
 | inl l =>
  rw [hr] at q1
  simp only at q1
  rw [q1]; rfl
 | inr a =>
  obtain ⟨o, h⟩ := q2 a hr
  rw [h]; rfl
theorem zpH (N : Nat) (b : List UInt8) (hb : b.length <= 20000) (hN : 20 <= N) (hN2 : b.length < N) : ∀ (m i : Nat) (out : List Tok), i <= b.length -> out.length <= i -> b.length < m + i ->
  (∀ l, jH b m i = .inl l -> ∃ x y, zH N m b ((i : Nat) : Int) out = some (Sum.inl (x, y, out ++ l))) /\ (∀ a, jH b m i = .inr a -> ∃ x y z, zH N m b ((i : Nat) : Int) out = some (Sum.inr (((a : Nat) : Int), x, y, z)))
 | 0, i, out, h, ho, h' => by omega
 | m + 1, i, out, h, ho, h' => by
  unfold zH kW jH
  have recu : ∀ (t : Tok) (n : Nat), ja b i = some (t, n) -> i < b.length -> (∀ l, (match ja b i with
    | none => .inr i
    | some (t, n) => if b.length <= i then .inl [t] else match jH b m n with
     | .inl l => .inl (t :: l)
     | .inr a => .inr a : List Tok ⊕ Nat) = .inl l -> ∃ x y, zH N m b ((n : Nat) : Int) (out ++ [t]) = some (Sum.inl (x, y, out ++ l))) /\ (∀ a, (match ja b i with
    | none => .inr i
    | some (t, n) => if b.length <= i then .inl [t] else match jH b m n with
     | .inl l => .inl (t :: l)
     | .inr a => .inr a : List Tok ⊕ Nat) = .inr a -> ∃ x y z, zH N m b ((n : Nat) : Int) (out ++ [t]) = some (Sum.inr (((a : Nat) : Int), x, y, z))) := by
   intro t n hn hlt
   have hl := zhr hlt hn
   obtain ⟨q1, q2⟩ := zpH N b hb hN hN2 m n (out ++ [t]) (by omega) (by simp; omega) (by omega)
   rw [hn]
   simp only [if_neg (show ¬ b.length <= i by omega)]
   cases hr : jH b m n with
   | inl l =>
    obtain ⟨x, y, h3⟩ := q1 l hr
    exact ⟨fun l' h => by cases h; exact ⟨x, y, by rw [h3, List.append_assoc]; rfl⟩, fun a h => by cases h⟩
   | inr a =>
    obtain ⟨x, y, z, h3⟩ := q2 a hr
    exact ⟨fun l' h => (by cases h), fun a' h => by cases h; exact ⟨x, y, z, h3⟩⟩
  have stop : ja b i = none -> ∀ (x : List UInt8) (y : Int) (z : List Tok), (∀ l, (match ja b i with
    | none => .inr i
    | some (t, n) => if b.length <= i then .inl [t] else match jH b m n with
     | .inl l => .inl (t :: l)
     | .inr a => .inr a : List Tok ⊕ Nat) = .inl l -> ∃ x' y', (some (Sum.inr (((i : Nat) : Int), x, y, z)) : Option ((List UInt8 × Int × List Tok) ⊕ (Int × List UInt8 × Int × List Tok))) = some (Sum.inl (x', y', out ++ l))) /\ (∀ a, (match ja b i with
    | none => .inr i
    | some (t, n) => if b.length <= i then .inl [t] else match jH b m n with
     | .inl l => .inl (t :: l)
     | .inr a => .inr a : List Tok ⊕ Nat) = .inr a -> ∃ x' y' z', (some (Sum.inr (((i : Nat) : Int), x, y, z)) : Option ((List UInt8 × Int × List Tok) ⊕ (Int × List UInt8 × Int × List Tok))) = some (Sum.inr (((a : Nat) : Int), x', y', z'))) := by
   intro hn x y z
   rw [hn]
   exact ⟨fun l h => (by cases h), fun a h => by cases h; exact ⟨_, _, _, rfl⟩⟩
  by_cases he : i = b.length
  ·subst he
   have hn : ja b b.length = some ((0, [], ((b.length : Nat) : Int)), b.length) := by unfold ja; rw [List.getElem?_eq_none (Nat.le_refl _)]
   rw [hn]
   simp only [show (((b.length : Nat) : Int) == ((b.length : Nat) : Int)) = true from beq_self_eq_true _, cond_true, zbB (show out.length + 1 <= 200000 by omega), Nat.le_refl, if_true]
   exact ⟨fun l h => by cases h; exact ⟨_, _, rfl⟩, fun a h => by cases h⟩
  ·have hlt : i < b.length := by omega
   have e : (((i : Nat) : Int) == ((b.length : Nat) : Int)) = false := by simp; omega
   have w1 : IntKind.wrap .i64 ((i : Int) + 1) = ((i + 1 : Nat) : Int) := by rw [wri (by omega) (by omega)]; omega
   have hg : b[i]? = some b[i] := List.getElem?_eq_getElem hlt
   simp only [e, cond_false, zX hlt, cond_true, Int.toNat_natCast, jK (u := .u8) hlt, w1, zbB (show out.length + 1 <= 200000 by omega)]
   cases h1 : b[i] == (32 : UInt8) with
   | true =>
    rw [beq_iff_eq] at h1
    exact recu _ _ (by unfold ja; rw [hg]; simp only [h1, if_true]) hlt
   | false =>
    have h1' : ¬ b[i] = 32 := by simpa using h1
    cases h2 : b[i] == (40 : UInt8) with
    | true =>
     rw [beq_iff_eq] at h2
     exact recu _ _ (by unfold ja; rw [hg]; simp only [if_neg h1', if_pos h2]) hlt
    | false =>
     have h2' : ¬ b[i] = 40 := by simpa using h2
     cases h3 : b[i] == (41 : UInt8) with
     | true =>
      rw [beq_iff_eq] at h3
      exact recu _ _ (by unfold ja; rw [hg]; simp only [if_neg h1', if_neg h2', if_pos h3]) hlt
     | false =>
      have h3' : ¬ b[i] = 41 := by simpa using h3
      cases h4 : b[i] == (34 : UInt8) with
      | true =>
       rw [beq_iff_eq] at h4
       simp only [cond_false, cond_true, zoH N b (by omega) hN2 i hlt, znK hlt h4]
       cases hs : sq (b.drop (i + 1)) with
       | none =>
        simp only [Option.bind_some, cond_false, Bool.not_false, cond_true]
        exact stop (by unfold ja; rw [hg]; simp only [if_neg h1', if_neg h2', if_neg h3', if_pos h4, hs]) _ _ _
       | some p =>
        obtain ⟨r, n⟩ := p
        simp only [Option.bind_some, cond_true, Bool.not_true, cond_false]
        exact recu _ _ (by unfold ja; rw [hg]; simp only [if_neg h1', if_neg h2', if_neg h3', if_pos h4, hs]) hlt
      | false =>
       have h4' : ¬ b[i] = 34 := by simpa using h4
       cases h5 : b[i] == (123 : UInt8) with
       | true =>
        rw [beq_iff_eq] at h5
        simp only [cond_false, cond_true, zph N b hb (by omega) i hlt h5]
        unfold zrn
        cases hp : posOf 125 (b.drop (i + 1)) with
        | none =>
         simp only [Option.bind_some, cond_false, Bool.not_false, cond_true]
         exact stop (by unfold ja; rw [hg]; simp only [if_neg h1', if_neg h2', if_neg h3', if_neg h4', if_pos h5, hp]) _ _ _
        | some k =>
         cases hv : zdH (slice b (i + 1) (i + 1 + k)) with
         | none =>
          simp only [hv, Option.bind_some, cond_false, Bool.not_false, cond_true]
          exact stop (by unfold ja; rw [hg]; simp only [if_neg h1', if_neg h2', if_neg h3', if_neg h4', if_pos h5, hp, hv]) _ _ _
         | some n =>
          by_cases hc : n <= 65536 /\ b[i + 1 + k + 1]? = some 13 /\ b[i + 1 + k + 2]? = some 10 /\ i + 1 + k + 3 + n <= b.length
          ·simp only [hv, if_pos hc, Option.bind_some, cond_true, Bool.not_true, cond_false]
           exact recu _ _ (by unfold ja; rw [hg]; simp only [if_neg h1', if_neg h2', if_neg h3', if_neg h4', if_pos h5, hp, hv, if_pos hc]) hlt
          ·simp only [hv, if_neg hc, Option.bind_some, cond_false, Bool.not_false, cond_true]
           exact stop (by unfold ja; rw [hg]; simp only [if_neg h1', if_neg h2', if_neg h3', if_neg h4', if_pos h5, hp, hv, if_neg hc]) _ _ _
       | false =>
        have h5' : ¬ b[i] = 123 := by simpa using h5
        have hr := zgD ql (b.drop i)
        rw [List.length_drop] at hr
        simp only [cond_false, zrY N b hb i N i (by omega) (by omega), Option.bind_some]
        have hbn : jw ((i : Nat) : Int) ((i + run ql (b.drop i) : Nat) : Int) b.length = true := qT (by omega) (by omega)
        simp only [hbn, Bool.and_true, cond_true, Int.toNat_natCast]
        by_cases h0 : 0 < run ql (b.drop i)
        ·have : decide (((i : Nat) : Int) < ((i + run ql (b.drop i) : Nat) : Int)) = true := by simp; omega
         simp only [this, Bool.not_true, cond_false]
         exact recu _ _ (by unfold ja; rw [hg]; simp only [if_neg h1', if_neg h2', if_neg h3', if_neg h4', if_neg h5', if_pos h0]) hlt
        ·have : decide (((i : Nat) : Int) < ((i + run ql (b.drop i) : Nat) : Int)) = false := by simp; omega
         simp only [this, Bool.not_false, cond_true]
         exact stop (by unfold ja; rw [hg]; simp only [if_neg h1', if_neg h2', if_neg h3', if_neg h4', if_neg h5', if_neg h0]) _ _ _
theorem zmG (N : Nat) (b : List UInt8) (hb : b.length <= 20000) (hN : 20 <= N) (hN2 : b.length < N) : kk N b = zpX (jH b N 0) := by
 unfold kk zpX
 obtain ⟨q1, q2⟩ := zpH N b hb hN hN2 N 0 [] (by omega) (by simp) (by omega)
 rw [show ((0 : Nat) : Int) = (0 : Int) from rfl] at q1 q2
 cases hr : jH b N 0 with
 | inl l =>
  obtain ⟨x, y, h⟩ := q1 l hr
  rw [h]; rfl
 | inr a =>
  obtain ⟨x, y, z, h⟩ := q2 a hr
  rw [h]; rfl
def up (c : UInt8) : UInt8 := cond (decide ((97 : UInt8) <= c)) (cond (decide (c <= (122 : UInt8))) (c - 32) c) c
theorem zrJ (c : UInt8) (h1 : decide ((97 : UInt8) <= c) = true) (h2 : decide (c <= (122 : UInt8)) = true) : c &&& ~~~(32 : UInt8) = c - 32 := by
 have key : ∀ n : Fin 256, decide ((97 : UInt8) <= UInt8.ofNat n.val) = true -> decide (UInt8.ofNat n.val <= (122 : UInt8)) = true -> UInt8.ofNat n.val &&& ~~~(32 : UInt8) = UInt8.ofNat n.val - 32 := by decide +kernel
 have := key ⟨c.toNat, c.toNat_lt⟩
 simp only [UInt8.ofNat_toNat] at this
 exact this h1 h2
theorem zsB {s : List UInt8} {i : Nat} (h : i < s.length) : ((s.take i).map up ++ s.drop i).set i (up s[i]) = (s.take (i + 1)).map up ++ s.drop (i + 1) := by
 have hl : ((s.take i).map up).length = i := by rw [List.length_map, List.length_take]; omega
 rw [List.set_append, if_neg (by omega), hl, Nat.sub_self, drop_one h, List.set_cons_zero, List.take_succ_eq_append_getElem h, List.map_append, List.append_assoc]
 rfl
theorem zsR {s : List UInt8} {i : Nat} (h : i < s.length) : nth .u8 ((s.take i).map up ++ s.drop i) i = s[i] := by
 have hl : ((s.take i).map up).length = i := by rw [List.length_map, List.length_take]; omega
 have h2 : i < ((s.take i).map up ++ s.drop i).length := by rw [List.length_append, hl, List.length_drop]; omega
 rw [show nth .u8 ((s.take i).map up ++ s.drop i) i = ((s.take i).map up ++ s.drop i)[i] from jK h2, List.getElem_append_right (by omega)]
 simp only [hl, Nat.sub_self, List.getElem_drop, Nat.add_zero]
theorem zgQ (N : Nat) (s : List UInt8) (hs : s.length <= 2000) : ∀ (m i : Nat), i <= s.length -> s.length < m + i ->
  qW N m (s.length : Int) (i : Int) ((s.take i).map up ++ s.drop i) = some (s.map up)
 | 0, i, h, h' => by omega
 | m + 1, i, h, h' => by
  unfold qW zaO
  by_cases hi : i < s.length
  ·have hlen : i < ((s.take i).map up ++ s.drop i).length := by rw [List.length_append, List.length_map, List.length_take, List.length_drop]; omega
   have hn : nth .u8 ((s.take i).map up ++ s.drop i) (Int.toNat (i : Int)) = s[i] := by rw [Int.toNat_natCast]; exact zsR hi
   simp only [zhE hi, cond_true, zX hlen]
   generalize nth .u8 ((s.take i).map up ++ s.drop i) (Int.toNat (i : Int)) = c at hn |-
   subst hn
   rw [Int.toNat_natCast, wri (by omega) (by omega), show ((i : Int) + 1) = ((i + 1 : Nat) : Int) by omega]
   have ih := zgQ N s hs m (i + 1) (by omega) (by omega)
   rw [<- zsB hi] at ih
   cases h1 : decide ((97 : UInt8) <= s[i]) with
   | true =>
    cases h2 : decide (s[i] <= (122 : UInt8)) with
    | true =>
     simp only [cond_true]
     rw [zrJ _ h1 h2]
     simpa only [up, h1, h2, cond_true] using ih
    | false =>
     simp only [cond_true, cond_false]
     simpa only [up, h1, h2, cond_true, cond_false] using ih
   | false =>
    simp only [cond_false]
    simpa only [up, h1, cond_false] using ih
  ·rw [zhF hi, List.take_of_length_le (by omega), List.drop_of_length_le (by omega), List.append_nil]; rfl
theorem zca (s : List UInt8) (hs : s.length <= 2000) : jf 3000 s = some (s.map up, ()) := by
 unfold jf
 rw [show Nat.blt s.length jd = true by rw [Nat.blt_eq]; unfold jd; omega, cond_true]
 have := zgQ 3000 s hs 3000 0 (by omega) (by omega)
 rw [List.take_zero, List.drop_zero, List.map_nil, List.nil_append, show ((0 : Nat) : Int) = 0 from rfl] at this
 rw [this]; rfl
theorem zfx (N : Nat) (s : List UInt8) (hs : s.length <= 2000) : ∀ (m i : Nat), i <= s.length -> s.length < m + i ->
  qI N m s ((s.take i).map up) (i : Int) = some (s.map up)
 | 0, i, h, h' => by omega
 | m + 1, i, h, h' => by
  unfold qI xX
  by_cases hi : i < s.length
  ·have hn : nth .u8 s (Int.toNat (i : Int)) = s[i] := by rw [Int.toNat_natCast]; exact jK hi
   have hcap : ∀ c : UInt8, decide (((s.take i).map up).length + ([c] : List UInt8).length < 4611686018427387904) = true := fun c => by
    rw [decide_eq_true_eq, List.length_map, List.length_take]; simp; omega
   simp only [zhE hi, cond_true, zX hi, hcap]
   generalize nth .u8 s (Int.toNat (i : Int)) = c at hn |-
   subst hn
   rw [wri (by omega) (by omega), show ((i : Int) + 1) = ((i + 1 : Nat) : Int) by omega]
   have ih := zfx N s hs m (i + 1) (by omega) (by omega)
   rw [List.take_succ_eq_append_getElem hi, List.map_append, show [s[i]].map up = [up s[i]] from rfl] at ih
   cases h1 : decide ((97 : UInt8) <= s[i]) with
   | true =>
    cases h2 : decide (s[i] <= (122 : UInt8)) with
    | true =>
     simp only [cond_true]
     simpa only [up, h1, h2, cond_true] using ih
    | false =>
     simp only [cond_true, cond_false]
     simpa only [up, h1, h2, cond_true, cond_false] using ih
   | false =>
    simp only [cond_false]
    simpa only [up, h1, cond_false] using ih
  ·rw [zhF hi, List.take_of_length_le (by omega)]; rfl
theorem qu (s : List UInt8) (hs : s.length <= 2000) : zi 3000 s = some (s.map up, ()) := by
 unfold zi
 have := zfx 3000 s hs 3000 0 (by omega) (by omega)
 rw [List.take_zero, List.map_nil, show ((0 : Nat) : Int) = 0 from rfl] at this
 rw [this]; rfl
def zth : List (List UInt8) := [([78, 79, 79, 80] : List UInt8), ([76, 79, 71, 79, 85, 84] : List UInt8), ([67, 76, 79, 83, 69] : List UInt8), ([69, 88, 80, 85, 78, 71, 69] : List UInt8), ([83, 69, 76, 69, 67, 84] : List UInt8), ([65, 80, 80, 69, 78, 68] : List UInt8), ([70, 69, 84, 67, 72] : List UInt8), ([83, 84, 79, 82, 69] : List UInt8)]
theorem zoz (u : List UInt8) : zj 3000 3000 zth u 8 0 = (cond (u == ([78, 79, 79, 80] : List UInt8)) (some (.inl 0)) (cond (u == ([76, 79, 71, 79, 85, 84] : List UInt8)) (some (.inl 1)) (cond (u == ([67, 76, 79, 83, 69] : List UInt8)) (some (.inl 2)) (cond (u == ([69, 88, 80, 85, 78, 71, 69] : List UInt8)) (some (.inl 3)) (cond (u == ([83, 69, 76, 69, 67, 84] : List UInt8)) (some (.inl 4)) (cond (u == ([65, 80, 80, 69, 78, 68] : List UInt8)) (some (.inl 5)) (cond (u == ([70, 69, 84, 67, 72] : List UInt8)) (some (.inl 6)) (cond (u == ([83, 84, 79, 82, 69] : List UInt8)) (some (.inl 7)) (some (.inr ())))))))))) := by kernel_rfl
def items : List (List UInt8) := [([70, 76, 65, 71, 83] : List UInt8), ([85, 73, 68] : List UInt8), ([82, 70, 67, 56, 50, 50, 46, 83, 73, 90, 69] : List UInt8), ([66, 79, 68, 89, 46, 80, 69, 69, 75, 91, 93] : List UInt8), ([66, 79, 68, 89, 91, 93] : List UInt8)]
theorem zoy (u : List UInt8) : zj 3000 3000 items u 5 0 = (cond (u == ([70, 76, 65, 71, 83] : List UInt8)) (some (.inl 0)) (cond (u == ([85, 73, 68] : List UInt8)) (some (.inl 1)) (cond (u == ([82, 70, 67, 56, 50, 50, 46, 83, 73, 90, 69] : List UInt8)) (some (.inl 2)) (cond (u == ([66, 79, 68, 89, 46, 80, 69, 69, 75, 91, 93] : List UInt8)) (some (.inl 3)) (cond (u == ([66, 79, 68, 89, 91, 93] : List UInt8)) (some (.inl 4)) (some (.inr ()))))))) := by kernel_rfl
theorem zls (a b : List UInt8) : (a == b) = (b == a) := by rw [Bool.eq_iff_iff, beq_iff_eq, beq_iff_eq]; exact eq_comm
theorem znt (s u : List UInt8) (hU : zi 3000 s = some (u, ())) : zb 3000 3000 s 1 = (cond (u == ([78, 79, 79, 80] : List UInt8)) (some (.inl 1)) (cond (u == ([76, 79, 71, 79, 85, 84] : List UInt8)) (some (.inl 2)) (cond (u == ([67, 76, 79, 83, 69] : List UInt8)) (some (.inl 3)) (cond (u == ([69, 88, 80, 85, 78, 71, 69] : List UInt8)) (some (.inl 4)) (cond (u == ([83, 69, 76, 69, 67, 84] : List UInt8)) (some (.inl 5)) (cond (u == ([65, 80, 80, 69, 78, 68] : List UInt8)) (some (.inl 6)) (cond (u == ([70, 69, 84, 67, 72] : List UInt8)) (some (.inl 7)) (cond (u == ([83, 84, 79, 82, 69] : List UInt8)) (some (.inl 8)) (some (.inr ())))))))))) := by
 have s0 : zb 3000 3000 s 1 = cond (u == ([78, 79, 79, 80] : List UInt8)) (some (.inl 1)) (zb 3000 2999 s 2) := by
  rw [show zb 3000 3000 s 1 = (Option.bind (zi 3000 s) fun y => cond (([78, 79, 79, 80] : List UInt8) == y.1) (some (.inl 1)) (zb 3000 2999 s 2)) from by kernel_rfl, hU, zls u]; rfl
 have s1 : zb 3000 2999 s 2 = cond (u == ([76, 79, 71, 79, 85, 84] : List UInt8)) (some (.inl 2)) (zb 3000 2998 s 3) := by
  rw [show zb 3000 2999 s 2 = (Option.bind (zi 3000 s) fun y => cond (([76, 79, 71, 79, 85, 84] : List UInt8) == y.1) (some (.inl 2)) (zb 3000 2998 s 3)) from by kernel_rfl, hU, zls u]; rfl
 have s2 : zb 3000 2998 s 3 = cond (u == ([67, 76, 79, 83, 69] : List UInt8)) (some (.inl 3)) (zb 3000 2997 s 4) := by
  rw [show zb 3000 2998 s 3 = (Option.bind (zi 3000 s) fun y => cond (([67, 76, 79, 83, 69] : List UInt8) == y.1) (some (.inl 3)) (zb 3000 2997 s 4)) from by kernel_rfl, hU, zls u]; rfl
 have s3 : zb 3000 2997 s 4 = cond (u == ([69, 88, 80, 85, 78, 71, 69] : List UInt8)) (some (.inl 4)) (zb 3000 2996 s 5) := by
  rw [show zb 3000 2997 s 4 = (Option.bind (zi 3000 s) fun y => cond (([69, 88, 80, 85, 78, 71, 69] : List UInt8) == y.1) (some (.inl 4)) (zb 3000 2996 s 5)) from by kernel_rfl, hU, zls u]; rfl
 have s4 : zb 3000 2996 s 5 = cond (u == ([83, 69, 76, 69, 67, 84] : List UInt8)) (some (.inl 5)) (zb 3000 2995 s 6) := by
  rw [show zb 3000 2996 s 5 = (Option.bind (zi 3000 s) fun y => cond (([83, 69, 76, 69, 67, 84] : List UInt8) == y.1) (some (.inl 5)) (zb 3000 2995 s 6)) from by kernel_rfl, hU, zls u]; rfl
 have s5 : zb 3000 2995 s 6 = cond (u == ([65, 80, 80, 69, 78, 68] : List UInt8)) (some (.inl 6)) (zb 3000 2994 s 7) := by
  rw [show zb 3000 2995 s 6 = (Option.bind (zi 3000 s) fun y => cond (([65, 80, 80, 69, 78, 68] : List UInt8) == y.1) (some (.inl 6)) (zb 3000 2994 s 7)) from by kernel_rfl, hU, zls u]; rfl
 have s6 : zb 3000 2994 s 7 = cond (u == ([70, 69, 84, 67, 72] : List UInt8)) (some (.inl 7)) (zb 3000 2993 s 8) := by
  rw [show zb 3000 2994 s 7 = (Option.bind (zi 3000 s) fun y => cond (([70, 69, 84, 67, 72] : List UInt8) == y.1) (some (.inl 7)) (zb 3000 2993 s 8)) from by kernel_rfl, hU, zls u]; rfl
 have s7 : zb 3000 2993 s 8 = cond (u == ([83, 84, 79, 82, 69] : List UInt8)) (some (.inl 8)) (zb 3000 2992 s 9) := by
  rw [show zb 3000 2993 s 8 = (Option.bind (zi 3000 s) fun y => cond (([83, 84, 79, 82, 69] : List UInt8) == y.1) (some (.inl 8)) (zb 3000 2992 s 9)) from by kernel_rfl, hU, zls u]; rfl
 rw [s0, s1, s2, s3, s4, s5, s6, s7]
 rw [show zb 3000 2992 s 9 = some (.inr ()) from by kernel_rfl]
theorem znQ (s u : List UInt8) (hU : zi 3000 s = some (u, ())) : zf 3000 3000 s 1 = (cond (u == ([70, 76, 65, 71, 83] : List UInt8)) (some (.inl 1)) (cond (u == ([85, 73, 68] : List UInt8)) (some (.inl 2)) (cond (u == ([82, 70, 67, 56, 50, 50, 46, 83, 73, 90, 69] : List UInt8)) (some (.inl 4)) (cond (u == ([66, 79, 68, 89, 46, 80, 69, 69, 75, 91, 93] : List UInt8)) (some (.inl 8)) (cond (u == ([66, 79, 68, 89, 91, 93] : List UInt8)) (some (.inl 16)) (some (.inr ()))))))) := by
 have s0 : zf 3000 3000 s 1 = cond (u == ([70, 76, 65, 71, 83] : List UInt8)) (some (.inl 1)) (zf 3000 2999 s 2) := by
  rw [show zf 3000 3000 s 1 = (Option.bind (zi 3000 s) fun y => cond (([70, 76, 65, 71, 83] : List UInt8) == y.1) (some (.inl 1)) (zf 3000 2999 s 2)) from by kernel_rfl, hU, zls u]; rfl
 have s1 : zf 3000 2999 s 2 = cond (u == ([85, 73, 68] : List UInt8)) (some (.inl 2)) (zf 3000 2998 s 4) := by
  rw [show zf 3000 2999 s 2 = (Option.bind (zi 3000 s) fun y => cond (([85, 73, 68] : List UInt8) == y.1) (some (.inl 2)) (zf 3000 2998 s 4)) from by kernel_rfl, hU, zls u]; rfl
 have s2 : zf 3000 2998 s 4 = cond (u == ([82, 70, 67, 56, 50, 50, 46, 83, 73, 90, 69] : List UInt8)) (some (.inl 4)) (zf 3000 2997 s 8) := by
  rw [show zf 3000 2998 s 4 = (Option.bind (zi 3000 s) fun y => cond (([82, 70, 67, 56, 50, 50, 46, 83, 73, 90, 69] : List UInt8) == y.1) (some (.inl 4)) (zf 3000 2997 s 8)) from by kernel_rfl, hU, zls u]; rfl
 have s3 : zf 3000 2997 s 8 = cond (u == ([66, 79, 68, 89, 46, 80, 69, 69, 75, 91, 93] : List UInt8)) (some (.inl 8)) (zf 3000 2996 s 16) := by
  rw [show zf 3000 2997 s 8 = (Option.bind (zi 3000 s) fun y => cond (([66, 79, 68, 89, 46, 80, 69, 69, 75, 91, 93] : List UInt8) == y.1) (some (.inl 8)) (zf 3000 2996 s 16)) from by kernel_rfl, hU, zls u]; rfl
 have s4 : zf 3000 2996 s 16 = cond (u == ([66, 79, 68, 89, 91, 93] : List UInt8)) (some (.inl 16)) (zf 3000 2995 s 32) := by
  rw [show zf 3000 2996 s 16 = (Option.bind (zi 3000 s) fun y => cond (([66, 79, 68, 89, 91, 93] : List UInt8) == y.1) (some (.inl 16)) (zf 3000 2995 s 32)) from by kernel_rfl, hU, zls u]; rfl
 rw [s0, s1, s2, s3, s4]
 rw [show zf 3000 2995 s 32 = some (.inr ()) from by kernel_rfl]
theorem zfU (s : List UInt8) (hs : s.length <= 2000) : ∃ n : Int, jW 3000 s = some (n, decide (0 < n), ()) /\ qP 3000 s = some (n, ()) /\ 0 <= n /\ n <= 8 := by
 unfold jW qP
 rw [zca s hs]
 simp only [Option.bind_some]
 unfold zp
 rw [show zj 3000 3000 [([78, 79, 79, 80] : List UInt8), ([76, 79, 71, 79, 85, 84] : List UInt8), ([67, 76, 79, 83, 69] : List UInt8), ([69, 88, 80, 85, 78, 71, 69] : List UInt8), ([83, 69, 76, 69, 67, 84] : List UInt8), ([65, 80, 80, 69, 78, 68] : List UInt8), ([70, 69, 84, 67, 72] : List UInt8), ([83, 84, 79, 82, 69] : List UInt8)] (s.map up) (((List.length ([([78, 79, 79, 80] : List UInt8), ([76, 79, 71, 79, 85, 84] : List UInt8), ([67, 76, 79, 83, 69] : List UInt8), ([69, 88, 80, 85, 78, 71, 69] : List UInt8), ([83, 69, 76, 69, 67, 84] : List UInt8), ([65, 80, 80, 69, 78, 68] : List UInt8), ([70, 69, 84, 67, 72] : List UInt8), ([83, 84, 79, 82, 69] : List UInt8)] : List (List UInt8))) : Nat) : Int) 0 = _ from zoz (s.map up), znt s _ (qu s hs)]
 generalize (s.map up == ([78, 79, 79, 80] : List UInt8)) = b0
 generalize (s.map up == ([76, 79, 71, 79, 85, 84] : List UInt8)) = b1
 generalize (s.map up == ([67, 76, 79, 83, 69] : List UInt8)) = b2
 generalize (s.map up == ([69, 88, 80, 85, 78, 71, 69] : List UInt8)) = b3
 generalize (s.map up == ([83, 69, 76, 69, 67, 84] : List UInt8)) = b4
 generalize (s.map up == ([65, 80, 80, 69, 78, 68] : List UInt8)) = b5
 generalize (s.map up == ([70, 69, 84, 67, 72] : List UInt8)) = b6
 generalize (s.map up == ([83, 84, 79, 82, 69] : List UInt8)) = b7
 cases b0 with
 | true => exact ⟨1, rfl, rfl, by omega⟩
 | false =>
  cases b1 with
  | true => exact ⟨2, rfl, rfl, by omega⟩
  | false =>
  cases b2 with
  | true => exact ⟨3, rfl, rfl, by omega⟩
  | false =>
   cases b3 with
   | true => exact ⟨4, rfl, rfl, by omega⟩
   | false =>
   cases b4 with
   | true => exact ⟨5, rfl, rfl, by omega⟩
   | false =>
    cases b5 with
    | true => exact ⟨6, rfl, rfl, by omega⟩
    | false =>
    cases b6 with
    | true => exact ⟨7, rfl, rfl, by omega⟩
    | false =>
     cases b7 with
     | true => exact ⟨8, rfl, rfl, by omega⟩
     | false =>
     exact ⟨0, rfl, rfl, by omega⟩
theorem zfL (s : List UInt8) (hs : s.length <= 2000) : ∃ n : Int, jx 3000 s = some (n, decide (0 < n), ()) /\ qM 3000 s = some (n, ()) /\ 0 <= n /\ n <= 16 := by
 unfold jx qM
 rw [zca s hs]
 simp only [Option.bind_some]
 unfold zp
 rw [show zj 3000 3000 [([70, 76, 65, 71, 83] : List UInt8), ([85, 73, 68] : List UInt8), ([82, 70, 67, 56, 50, 50, 46, 83, 73, 90, 69] : List UInt8), ([66, 79, 68, 89, 46, 80, 69, 69, 75, 91, 93] : List UInt8), ([66, 79, 68, 89, 91, 93] : List UInt8)] (s.map up) (((List.length ([([70, 76, 65, 71, 83] : List UInt8), ([85, 73, 68] : List UInt8), ([82, 70, 67, 56, 50, 50, 46, 83, 73, 90, 69] : List UInt8), ([66, 79, 68, 89, 46, 80, 69, 69, 75, 91, 93] : List UInt8), ([66, 79, 68, 89, 91, 93] : List UInt8)] : List (List UInt8))) : Nat) : Int) 0 = _ from zoy (s.map up), znQ s _ (qu s hs)]
 generalize (s.map up == ([70, 76, 65, 71, 83] : List UInt8)) = b0
 generalize (s.map up == ([85, 73, 68] : List UInt8)) = b1
 generalize (s.map up == ([82, 70, 67, 56, 50, 50, 46, 83, 73, 90, 69] : List UInt8)) = b2
 generalize (s.map up == ([66, 79, 68, 89, 46, 80, 69, 69, 75, 91, 93] : List UInt8)) = b3
 generalize (s.map up == ([66, 79, 68, 89, 91, 93] : List UInt8)) = b4
 cases b0 with
 | true => exact ⟨1, rfl, rfl, by omega⟩
 | false =>
  cases b1 with
  | true => exact ⟨2, rfl, rfl, by omega⟩
  | false =>
  cases b2 with
  | true => exact ⟨4, rfl, rfl, by omega⟩
  | false =>
   cases b3 with
   | true => exact ⟨8, rfl, rfl, by omega⟩
   | false =>
   cases b4 with
   | true => exact ⟨16, rfl, rfl, by omega⟩
   | false =>
    exact ⟨0, rfl, rfl, by omega⟩
def qc (c : UInt8) : List UInt8 -> List (List UInt8)
 | [] => [[]]
 | x :: l => if x == c then [] :: qc c l else match qc c l with
  | h :: t => (x :: h) :: t
  | [] => [[x]]
theorem xG {c : UInt8} : ∀ {l : List UInt8}, posOf c l = none -> qc c l = [l]
 | [], h => rfl
 | x :: l, h => by
  unfold posOf at h
  unfold qc
  cases hx : x == c with
  | true => simp only [hx, if_true] at h; cases h
  | false =>
   simp only [hx, Bool.false_eq_true, if_false] at h |-
   split at h
   ·cases h
   ·rename_i hn; rw [xG hn]
theorem za9 {c : UInt8} : ∀ {l : List UInt8} {i : Nat}, posOf c l = some i -> qc c l = l.take i :: qc c (l.drop (i + 1))
 | [], i, h => by cases h
 | x :: l, i, h => by
  unfold posOf at h
  conv => lhs; unfold qc
  cases hx : x == c with
  | true => simp only [hx, if_true] at h |-; cases h; rfl
  | false =>
   simp only [hx, Bool.false_eq_true, if_false] at h |-
   split at h
   ·rename_i j hj
    cases h
    rw [za9 hj]; rfl
   ·cases h
theorem index_one (c : UInt8) : ∀ l : List UInt8, Go.Lib.index l [c] = match posOf c l with
  | some i => ((i : Nat) : Int)
  | none => -1
 | [] => rfl
 | b :: l => by
  unfold Go.Lib.index posOf
  have hp : ([c] : List UInt8).isPrefixOf (b :: l) = (b == c) := by
   rw [List.isPrefixOf_cons_cons, List.isPrefixOf_nil_left, Bool.and_true]
   rw [Bool.eq_iff_iff, beq_iff_eq, beq_iff_eq]; exact eq_comm
  rw [hp, index_one c l]
  cases b == c with
  | true => rfl
  | false =>
   simp only [Bool.false_eq_true, if_false]
   cases posOf c l with
   | none => rfl
   | some i =>
    simp only
    rw [if_neg (by rw [beq_iff_eq]; omega)]; rfl
theorem zig (c : UInt8) : ∀ (k : Nat) (s : List UInt8), s.length <= k -> Go.Lib.splitK [c] 0 (Go.Lib.count s [c]) s = qc c s
 | 0, s, h => by
  have : s = [] := List.eq_nil_of_length_eq_zero (by omega)
  subst this
  rw [Go.Lib.count_miss (by rfl)]; rfl
 | k + 1, s, h => by
  cases hp : posOf c s with
  | none =>
   rw [Go.Lib.count_miss (by rw [index_one, hp]), xG hp]; rfl
  | some i =>
   have hi := qZ hp
   have hix : Go.Lib.index s [c] = ((i : Nat) : Int) := by rw [index_one, hp]
   rw [Go.Lib.count_hit (by simp) hix, Nat.add_comm 1]
   unfold Go.Lib.splitK
   rw [if_neg (by rw [hix, beq_iff_eq]; omega), hix, Int.toNat_natCast, za9 hp]
   rw [Nat.add_zero]
   congr 1
   exact zig c k (s.drop (i + 1)) (by rw [List.length_drop]; omega)
theorem zfA (c : UInt8) (s : List UInt8) : jb s [c] = qc c s := by
 unfold jb
 rw [Go.Lib.splitB_data]
 exact zig c s.length s (Nat.le_refl _)
theorem jN (c : UInt8) : ∀ l : List UInt8, 0 < (qc c l).length /\ (qc c l).length <= l.length + 1 /\ ∀ p ∈ qc c l, p.length <= l.length
 | [] => ⟨by simp [qc], by simp [qc], by simp [qc]⟩
 | x :: l => by
  obtain ⟨h1, h2, h3⟩ := jN c l
  unfold qc
  split
  ·refine ⟨by simp, by simp; omega, fun p hp => ?_⟩
   simp only [List.mem_cons] at hp
   rcases hp with rfl | hp
   ·simp
   ·have := h3 p hp; simp; omega
  ·split
   ·rename_i h t he
    rw [he] at h1 h2 h3
    refine ⟨by simp, by simp at h2 |-; omega, fun p hp => ?_⟩
    simp only [List.mem_cons] at hp
    rcases hp with rfl | hp
    ·have := h3 h (by simp); simp; omega
    ·have := h3 p (by simp [hp]); simp; omega
   ·rename_i he
    rw [he] at h1; simp at h1
def glue (p : List UInt8) : List (List UInt8) -> List (List UInt8)
 | h :: t => (p ++ h) :: t
 | [] => [p]
theorem zlS {l : List UInt8} {a b : Nat} (h : a <= b) (hb : b < l.length) : slice l a (b + 1) = slice l a b ++ [l[b]] := by
 unfold slice
 rw [show b + 1 - a = (b - a) + 1 by omega, List.take_succ_eq_append_getElem (by rw [List.length_drop]; omega)]
 congr 2
 rw [List.getElem_drop]
 congr 1; omega
theorem zju (N : Nat) (s : List UInt8) (hs : s.length <= 2000) (c : UInt8) : ∀ (m from_ i : Nat) (out : List (List UInt8)), from_ <= i -> i <= s.length -> out.length <= i -> s.length + 1 < m + i ->
  zT N m s c ((from_ : Nat) : Int) ((i : Nat) : Int) out = some (out ++ glue (slice s from_ i) (qc c (s.drop i)))
 | 0, f, i, out, h1, h2, h3, h4 => by omega
 | m + 1, f, i, out, h1, h2, h3, h4 => by
  unfold zT j6
  have c0 : decide (((i : Nat) : Int) <= ((s.length : Nat) : Int)) = true := by simp; omega
  have w1 : IntKind.wrap .i64 (((i : Nat) : Int) + 1) = ((i + 1 : Nat) : Int) := by rw [wri (by omega) (by omega)]; omega
  have hb : jw ((f : Nat) : Int) ((i : Nat) : Int) s.length = true := qT h1 h2
  simp only [c0, cond_true, w1, hb, Int.toNat_natCast, zbB (show out.length + 1 <= 200000 by omega)]
  by_cases hi : i < s.length
  ·have e : (((i : Nat) : Int) == ((s.length : Nat) : Int)) = false := by simp; omega
   simp only [e, cond_false, zX hi, cond_true, jK (u := .u8) hi, drop_one hi]
   unfold qc
   cases hc : s[i] == c with
   | true =>
    simp only [cond_true, if_true]
    rw [zju N s hs c m (i + 1) (i + 1) (out ++ [slice s f i]) (Nat.le_refl _) (by omega) (by simp; omega) (by omega)]
    have : slice s (i + 1) (i + 1) = [] := by unfold slice; simp
    rw [this]
    have hne := (jN c (s.drop (i + 1))).1
    cases hsp : qc c (s.drop (i + 1)) with
    | nil => rw [hsp] at hne; simp at hne
    | cons h t => simp [glue]
   | false =>
    simp only [cond_false, Bool.false_eq_true, if_false]
    rw [zju N s hs c m f (i + 1) out (by omega) (by omega) (by omega) (by omega), zlS h1 hi]
    have hne := (jN c (s.drop (i + 1))).1
    cases hsp : qc c (s.drop (i + 1)) with
    | nil => rw [hsp] at hne; simp at hne
    | cons h t => simp [glue]
  ·have hie : i = s.length := by omega
   subst hie
   simp only [show (((s.length : Nat) : Int) == ((s.length : Nat) : Int)) = true from beq_self_eq_true _, cond_true]
   rw [List.drop_eq_nil_of_le (Nat.le_refl _)]
   have : ∀ (m : Nat) (o : List (List UInt8)), 0 < m -> zT N m s c ((s.length + 1 : Nat) : Int) ((s.length + 1 : Nat) : Int) o = some o := by
    intro m o hm
    cases m with
    | zero => omega
    | succ m =>
     unfold zT j6
     have c1 : decide (((s.length + 1 : Nat) : Int) <= ((s.length : Nat) : Int)) = false := by simp; omega
     simp only [c1, cond_false]
   rw [this m _ (by omega)]
   simp [qc, glue]
theorem zpx (s : List UInt8) (hs : s.length <= 2000) (c : UInt8) : wC 3000 s c = some (qc c s, ()) := by
 unfold wC
 have := zju 3000 s hs c 3000 0 0 [] (by omega) (by omega) (by simp) (by omega)
 rw [show ((0 : Nat) : Int) = (0 : Int) from rfl] at this
 rw [this]
 have h0 : slice s 0 0 = [] := by unfold slice; simp
 rw [h0, List.drop_zero]
 have hne := (jN c s).1
 cases hsp : qc c s with
 | nil => rw [hsp] at hne; simp at hne
 | cons h t => rfl
def zga (s : List UInt8) : Option Nat := if s = [42] then some 0 else match zdH s with
 | some v => if v = 0 then none else some v
 | none => none
def zjS (s : List UInt8) (o : Option (Int × Bool × Unit)) : Prop := match zga s with
 | some v => o = some (((v : Nat) : Int), true, ())
 | none => ∃ x, o = some (x, false, ())
theorem zaU (s : List UInt8) (hs : s.length <= 2000) : zjS s (zU 3000 s) := by
 unfold zjS zga zU
 by_cases h : s = [42]
 ·subst h; rfl
 ·have e : (s == ([42] : List UInt8)) = false := by simpa using h
  simp only [e, cond_false, if_neg h]
  rw [zkM 3000 (by omega) s (by omega)]
  unfold zpm
  simp only [Option.bind_some]
  cases zdH s with
  | none => exact ⟨_, rfl⟩
  | some v =>
   simp only [cond_true]
   by_cases hv : v = 0
   ·subst hv; exact ⟨_, rfl⟩
   ·rw [if_neg hv]
    have : (((v : Nat) : Int) != 0) = true := by simp; omega
    simp only [this]
theorem ze8 (s : List UInt8) : zjS s (j1 3000 s) := by
 unfold zjS zga j1
 by_cases h : s = [42]
 ·subst h; rfl
 ·have e : (s == ([42] : List UInt8)) = false := by simpa using h
  simp only [e, cond_false, if_neg h]
  rw [zme 3000 (by omega) s]
  unfold zpm
  simp only [Option.bind_some]
  cases zdH s with
  | none => exact ⟨_, rfl⟩
  | some v =>
   simp only [cond_true]
   by_cases hv : v = 0
   ·subst hv; exact ⟨_, rfl⟩
   ·rw [if_neg hv]
    have : decide ((0 : Int) < ((v : Nat) : Int)) = true := by simp; omega
    simp only [this]
def kD (s : List UInt8) : Option (Int × Int) := match posOf 58 s with
 | none => match zga s with
  | some v => some (((v : Nat) : Int), ((v : Nat) : Int))
  | none => none
 | some i => match zga (s.take i), zga (s.drop (i + 1)) with
  | some a, some b => some (((a : Nat) : Int), ((b : Nat) : Int))
  | _, _ => none
def qS : List (List UInt8) -> Option (List (Int × Int))
 | [] => some []
 | s :: l => match kD s, qS l with
  | some r, some t => some (r :: t)
  | _, _ => none
def kA (s : List UInt8) : Option ((List (Int × Int)) × Bool × Unit) := some (match qS (qc 44 s) with
 | some l => (l, true, ())
 | none => ([], false, ()))
end Go.Proofs.Model
