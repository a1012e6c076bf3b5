/- Operations that touch no memory. -/
import Derived.Test.YtfkgbpkgggaphaaGreatDoorGxC
import Derived.WalkKit
import Derived.WalkSpells
import Derived.WalkLawsBesides
namespace Go.Gx
open Go

def sget {α : Type} (l : List α) (i : Int) : Option α := if 0 ≤ i then l[i.toNat]? else none
def cut {α : Type} (l : List α) (lo hi : Int) : Option (List α) := if 0 ≤ lo ∧ lo ≤ hi ∧ hi ≤ l.length then some ((l.drop lo.toNat).take (hi - lo).toNat) else none
/-- 'a + b' of strings, where the length is an int. -/
def cat (a b : List UInt8) : Option (List UInt8) := if a.length + b.length < 4611686018427387904 then some (a ++ b) else none
def ibits (op : BinOp) (k : IntKind) (a b : Int) : Int :=
  k.wrap (match op with | .and => BitVec.ofInt k.bits a &&& BitVec.ofInt k.bits b | .or => BitVec.ofInt k.bits a ||| BitVec.ofInt k.bits b | .xor => BitVec.ofInt k.bits a ^^^ BitVec.ofInt k.bits b | _ => BitVec.ofInt k.bits a &&& ~~~ BitVec.ofInt k.bits b).toNat

section
variable {P : Program} {n : Nat} {Q : Exit → Env → World → Prop} {ρ : Env} {w : World} {ops : Array Oper} {rest : List Oper} {d : Nat} {ty : TypeId} {pos : String} {after : Array Edge}
  {x y c : Operand} {t t' : TypeId}

theorem lt' {a b : Nat} (h : Nat.blt a b = true) : a < b := by simpa [Nat.blt_eq] using h

theorem WL_move {v : Value} (hd : d < n) (hx : ev ρ x = v) (h : WL P n ops rest Q (upd ρ d v) w) : WL P n ops (⟨some d, .move x, ty, pos, after, none⟩ :: rest) Q ρ w :=
  WL_value hd (by intros; simp [execOp, hx]) h
theorem WL_assign {v : Value} (hd : d < n) (hx : ev ρ x = v) (h : WL P n ops rest Q (upd ρ d v) w) : WL P n ops (⟨some d, .assign x, ty, pos, after, none⟩ :: rest) Q ρ w :=
  WL_value hd (by intros; simp [execOp, hx]) h
theorem WL_pickT {v : Value} (hd : d < n) (hc : ev ρ c = .bool true) (hv : ev ρ x = v) (h : WL P n ops rest Q (upd ρ d v) w) : WL P n ops (⟨some d, .pick c x y, ty, pos, after, none⟩ :: rest) Q ρ w :=
  WL_value hd (by intros; subst hv; simp [execOp, hc, asBool]) h
theorem WL_pickF {v : Value} (hd : d < n) (hc : ev ρ c = .bool false) (hv : ev ρ y = v) (h : WL P n ops rest Q (upd ρ d v) w) : WL P n ops (⟨some d, .pick c x y, ty, pos, after, none⟩ :: rest) Q ρ w :=
  WL_value hd (by intros; subst hv; simp [execOp, hc, asBool]) h

section ints
variable {k : IntKind} {a b : Int}
theorem WL_iadd (hd : d < n) (hx : ev ρ x = .int k a) (hy : ev ρ y = .int k b) (h : WL P n ops rest Q (upd ρ d (.int k (k.wrap (a + b)))) w) : WL P n ops (⟨some d, .binOp .add t x y t', ty, pos, after, none⟩ :: rest) Q ρ w :=
  WL_value hd (by intros; simp [execOp, hx, hy, eqGuard, binOp, Op.intArith]) h
theorem WL_isub (hd : d < n) (hx : ev ρ x = .int k a) (hy : ev ρ y = .int k b) (h : WL P n ops rest Q (upd ρ d (.int k (k.wrap (a - b)))) w) : WL P n ops (⟨some d, .binOp .sub t x y t', ty, pos, after, none⟩ :: rest) Q ρ w :=
  WL_value hd (by intros; simp [execOp, hx, hy, eqGuard, binOp, Op.intArith]) h
theorem WL_imul (hd : d < n) (hx : ev ρ x = .int k a) (hy : ev ρ y = .int k b) (h : WL P n ops rest Q (upd ρ d (.int k (k.wrap (a * b)))) w) : WL P n ops (⟨some d, .binOp .mul t x y t', ty, pos, after, none⟩ :: rest) Q ρ w :=
  WL_value hd (by intros; simp [execOp, hx, hy, eqGuard, binOp, Op.intArith]) h
theorem WL_iquo (hb : b ≠ 0) (hd : d < n) (hx : ev ρ x = .int k a) (hy : ev ρ y = .int k b) (h : WL P n ops rest Q (upd ρ d (.int k (k.wrap (a.tdiv b)))) w) : WL P n ops (⟨some d, .binOp .quo t x y t', ty, pos, after, none⟩ :: rest) Q ρ w :=
  WL_value hd (by intros; simp [execOp, hx, hy, eqGuard, binOp, Op.intDiv, hb]) h
theorem WL_irem (hb : b ≠ 0) (hd : d < n) (hx : ev ρ x = .int k a) (hy : ev ρ y = .int k b) (h : WL P n ops rest Q (upd ρ d (.int k (a.tmod b))) w) : WL P n ops (⟨some d, .binOp .rem t x y t', ty, pos, after, none⟩ :: rest) Q ρ w :=
  WL_value hd (by intros; simp [execOp, hx, hy, eqGuard, binOp, Op.intDiv, hb]) h
theorem WL_iand (hd : d < n) (hx : ev ρ x = .int k a) (hy : ev ρ y = .int k b) (h : WL P n ops rest Q (upd ρ d (.int k (ibits .and k a b))) w) : WL P n ops (⟨some d, .binOp .and t x y t', ty, pos, after, none⟩ :: rest) Q ρ w :=
  WL_value hd (by intros; simp [execOp, hx, hy, eqGuard, binOp, Op.intBits, ibits]) h
theorem WL_ior (hd : d < n) (hx : ev ρ x = .int k a) (hy : ev ρ y = .int k b) (h : WL P n ops rest Q (upd ρ d (.int k (ibits .or k a b))) w) : WL P n ops (⟨some d, .binOp .or t x y t', ty, pos, after, none⟩ :: rest) Q ρ w :=
  WL_value hd (by intros; simp [execOp, hx, hy, eqGuard, binOp, Op.intBits, ibits]) h
theorem WL_iandNot (hd : d < n) (hx : ev ρ x = .int k a) (hy : ev ρ y = .int k b) (h : WL P n ops rest Q (upd ρ d (.int k (ibits .andNot k a b))) w) : WL P n ops (⟨some d, .binOp .andNot t x y t', ty, pos, after, none⟩ :: rest) Q ρ w :=
  WL_value hd (by intros; simp [execOp, hx, hy, eqGuard, binOp, Op.intBits, ibits]) h
theorem WL_ishl {k' : IntKind} (hb : 0 ≤ b) (hd : d < n) (hx : ev ρ x = .int k a) (hy : ev ρ y = .int k' b) (h : WL P n ops rest Q (upd ρ d (.int k (k.wrap (a * 2 ^ (min b.toNat k.bits))))) w) : WL P n ops (⟨some d, .binOp .shl t x y t', ty, pos, after, none⟩ :: rest) Q ρ w :=
  WL_value hd (by intros; simp [execOp, hx, hy, eqGuard, binOp, Op.shift, show ¬ b < 0 by omega]) h
theorem WL_ishr {k' : IntKind} (hb : 0 ≤ b) (hd : d < n) (hx : ev ρ x = .int k a) (hy : ev ρ y = .int k' b) (h : WL P n ops rest Q (upd ρ d (.int k (a.fdiv (2 ^ (min b.toNat k.bits))))) w) : WL P n ops (⟨some d, .binOp .shr t x y t', ty, pos, after, none⟩ :: rest) Q ρ w :=
  WL_value hd (by intros; simp [execOp, hx, hy, eqGuard, binOp, Op.shift, show ¬ b < 0 by omega]) h
theorem WL_ilss (hd : d < n) (hx : ev ρ x = .int k a) (hy : ev ρ y = .int k b) (h : WL P n ops rest Q (upd ρ d (.bool (decide (a < b)))) w) : WL P n ops (⟨some d, .binOp .lss t x y t', ty, pos, after, none⟩ :: rest) Q ρ w :=
  WL_value hd (by intros; simp [execOp, hx, hy, eqGuard, binOp, Op.intCmp]) h
theorem WL_ileq (hd : d < n) (hx : ev ρ x = .int k a) (hy : ev ρ y = .int k b) (h : WL P n ops rest Q (upd ρ d (.bool (decide (a ≤ b)))) w) : WL P n ops (⟨some d, .binOp .leq t x y t', ty, pos, after, none⟩ :: rest) Q ρ w :=
  WL_value hd (by intros; simp [execOp, hx, hy, eqGuard, binOp, Op.intCmp]) h
theorem WL_igtr (hd : d < n) (hx : ev ρ x = .int k a) (hy : ev ρ y = .int k b) (h : WL P n ops rest Q (upd ρ d (.bool (decide (b < a)))) w) : WL P n ops (⟨some d, .binOp .gtr t x y t', ty, pos, after, none⟩ :: rest) Q ρ w :=
  WL_value hd (by intros; simp [execOp, hx, hy, eqGuard, binOp, Op.intCmp]) h
theorem WL_igeq (hd : d < n) (hx : ev ρ x = .int k a) (hy : ev ρ y = .int k b) (h : WL P n ops rest Q (upd ρ d (.bool (decide (b ≤ a)))) w) : WL P n ops (⟨some d, .binOp .geq t x y t', ty, pos, after, none⟩ :: rest) Q ρ w :=
  WL_value hd (by intros; simp [execOp, hx, hy, eqGuard, binOp, Op.intCmp]) h
theorem WL_ieql (hd : d < n) (hx : ev ρ x = .int k a) (hy : ev ρ y = .int k b) (h : WL P n ops rest Q (upd ρ d (.bool (a == b))) w) : WL P n ops (⟨some d, .binOp .eql t x y t', ty, pos, after, none⟩ :: rest) Q ρ w :=
  WL_value hd (by intros; simp [execOp, hx, hy, eqGuard, binOp, Op.intCmp]) h
theorem WL_ineq (hd : d < n) (hx : ev ρ x = .int k a) (hy : ev ρ y = .int k b) (h : WL P n ops rest Q (upd ρ d (.bool (a != b))) w) : WL P n ops (⟨some d, .binOp .neq t x y t', ty, pos, after, none⟩ :: rest) Q ρ w :=
  WL_value hd (by intros; simp [execOp, hx, hy, eqGuard, binOp, Op.intCmp]) h
theorem WL_iconv {k' : IntKind} (hs : (P.underlying t).isSome = true) (ht : P.underlying t' = some (.int k')) (hd : d < n) (hx : ev ρ x = .int k a) (h : WL P n ops rest Q (upd ρ d (.int k' (k'.wrap a))) w) : WL P n ops (⟨some d, .convert t t' x, ty, pos, after, none⟩ :: rest) Q ρ w :=
  WL_value hd (by intros; simp only [execOp, hx, Sem.run_bind]; rw [show (convert t t' (.int k a)).run P w = .ok (.int k' (k'.wrap a)) w from by obtain ⟨u, hu⟩ := Option.isSome_iff_exists.1 hs; simp [convert, run_underlying ht, run_underlying hu, Conv.intToInt]]; rfl) h
end ints

section bytes
variable {a b : UInt8}
theorem u8c (a b : UInt8) : ((a.toNat : Int) == (b.toNat : Int)) = (a == b) := by
  rw [Bool.eq_iff_iff]; simp only [beq_iff_eq, Int.natCast_inj]; exact ⟨UInt8.toNat_inj.1, congrArg _⟩
theorem u8bv (a : UInt8) : BitVec.ofInt 8 (a.toNat : Int) = a.toBitVec := by
  rw [BitVec.ofInt_natCast]; simp
theorem u8wrap (a : UInt8) : IntKind.u8.wrap (a.toNat : Int) = a.toNat := by have := a.toNat_lt; rw [IntKind.wrap_u8]; omega
theorem WL_blss (hd : d < n) (hx : ev ρ x = .int .u8 a.toNat) (hy : ev ρ y = .int .u8 b.toNat) (h : WL P n ops rest Q (upd ρ d (.bool (decide (a < b)))) w) : WL P n ops (⟨some d, .binOp .lss t x y t', ty, pos, after, none⟩ :: rest) Q ρ w :=
  WL_ilss hd hx hy (by rw [show decide ((a.toNat : Int) < b.toNat) = decide (a < b) from by simp [UInt8.lt_iff_toNat_lt]]; exact h)
theorem WL_bleq (hd : d < n) (hx : ev ρ x = .int .u8 a.toNat) (hy : ev ρ y = .int .u8 b.toNat) (h : WL P n ops rest Q (upd ρ d (.bool (decide (a ≤ b)))) w) : WL P n ops (⟨some d, .binOp .leq t x y t', ty, pos, after, none⟩ :: rest) Q ρ w :=
  WL_ileq hd hx hy (by rw [show decide ((a.toNat : Int) ≤ b.toNat) = decide (a ≤ b) from by simp [UInt8.le_iff_toNat_le]]; exact h)
theorem WL_bgtr (hd : d < n) (hx : ev ρ x = .int .u8 a.toNat) (hy : ev ρ y = .int .u8 b.toNat) (h : WL P n ops rest Q (upd ρ d (.bool (decide (b < a)))) w) : WL P n ops (⟨some d, .binOp .gtr t x y t', ty, pos, after, none⟩ :: rest) Q ρ w :=
  WL_igtr hd hx hy (by rw [show decide ((b.toNat : Int) < a.toNat) = decide (b < a) from by simp [UInt8.lt_iff_toNat_lt]]; exact h)
theorem WL_bgeq (hd : d < n) (hx : ev ρ x = .int .u8 a.toNat) (hy : ev ρ y = .int .u8 b.toNat) (h : WL P n ops rest Q (upd ρ d (.bool (decide (b ≤ a)))) w) : WL P n ops (⟨some d, .binOp .geq t x y t', ty, pos, after, none⟩ :: rest) Q ρ w :=
  WL_igeq hd hx hy (by rw [show decide ((b.toNat : Int) ≤ a.toNat) = decide (b ≤ a) from by simp [UInt8.le_iff_toNat_le]]; exact h)
theorem WL_beql (hd : d < n) (hx : ev ρ x = .int .u8 a.toNat) (hy : ev ρ y = .int .u8 b.toNat) (h : WL P n ops rest Q (upd ρ d (.bool (a == b))) w) : WL P n ops (⟨some d, .binOp .eql t x y t', ty, pos, after, none⟩ :: rest) Q ρ w :=
  WL_ieql hd hx hy (by rw [u8c]; exact h)
theorem WL_bneq (hd : d < n) (hx : ev ρ x = .int .u8 a.toNat) (hy : ev ρ y = .int .u8 b.toNat) (h : WL P n ops rest Q (upd ρ d (.bool (a != b))) w) : WL P n ops (⟨some d, .binOp .neq t x y t', ty, pos, after, none⟩ :: rest) Q ρ w :=
  WL_ineq hd hx hy (by rw [bne, u8c]; exact h)
theorem WL_badd (hd : d < n) (hx : ev ρ x = .int .u8 a.toNat) (hy : ev ρ y = .int .u8 b.toNat) (h : WL P n ops rest Q (upd ρ d (.int .u8 (a + b).toNat)) w) : WL P n ops (⟨some d, .binOp .add t x y t', ty, pos, after, none⟩ :: rest) Q ρ w :=
  WL_iadd hd hx hy (by rw [show IntKind.u8.wrap ((a.toNat : Int) + b.toNat) = ((a + b).toNat : Int) from by rw [IntKind.wrap_u8, UInt8.toNat_add]; omega]; exact h)
theorem WL_bsub (hd : d < n) (hx : ev ρ x = .int .u8 a.toNat) (hy : ev ρ y = .int .u8 b.toNat) (h : WL P n ops rest Q (upd ρ d (.int .u8 (a - b).toNat)) w) : WL P n ops (⟨some d, .binOp .sub t x y t', ty, pos, after, none⟩ :: rest) Q ρ w :=
  WL_isub hd hx hy (by rw [show IntKind.u8.wrap ((a.toNat : Int) - b.toNat) = ((a - b).toNat : Int) from by have := a.toNat_lt; have := b.toNat_lt; rw [IntKind.wrap_u8, UInt8.toNat_sub]; omega]; exact h)
theorem WL_band (hd : d < n) (hx : ev ρ x = .int .u8 a.toNat) (hy : ev ρ y = .int .u8 b.toNat) (h : WL P n ops rest Q (upd ρ d (.int .u8 (a &&& b).toNat)) w) : WL P n ops (⟨some d, .binOp .and t x y t', ty, pos, after, none⟩ :: rest) Q ρ w :=
  WL_iand hd hx hy (by rw [show ibits .and .u8 (a.toNat : Int) b.toNat = ((a &&& b).toNat : Int) from by unfold ibits; simp only [IntKind.bits, u8bv]; exact u8wrap (a &&& b)]; exact h)
theorem WL_bor (hd : d < n) (hx : ev ρ x = .int .u8 a.toNat) (hy : ev ρ y = .int .u8 b.toNat) (h : WL P n ops rest Q (upd ρ d (.int .u8 (a ||| b).toNat)) w) : WL P n ops (⟨some d, .binOp .or t x y t', ty, pos, after, none⟩ :: rest) Q ρ w :=
  WL_ior hd hx hy (by rw [show ibits .or .u8 (a.toNat : Int) b.toNat = ((a ||| b).toNat : Int) from by unfold ibits; simp only [IntKind.bits, u8bv]; exact u8wrap (a ||| b)]; exact h)
theorem WL_bandNot (hd : d < n) (hx : ev ρ x = .int .u8 a.toNat) (hy : ev ρ y = .int .u8 b.toNat) (h : WL P n ops rest Q (upd ρ d (.int .u8 (a &&& ~~~ b).toNat)) w) : WL P n ops (⟨some d, .binOp .andNot t x y t', ty, pos, after, none⟩ :: rest) Q ρ w :=
  WL_iandNot hd hx hy (by rw [show ibits .andNot .u8 (a.toNat : Int) b.toNat = ((a &&& ~~~ b).toNat : Int) from by unfold ibits; simp only [IntKind.bits, u8bv]; exact u8wrap (a &&& ~~~ b)]; exact h)
end bytes

theorem WL_not {b : Bool} (hd : d < n) (hx : ev ρ x = .bool b) (h : WL P n ops rest Q (upd ρ d (.bool (!b))) w) : WL P n ops (⟨some d, .unOp .not t x, ty, pos, after, none⟩ :: rest) Q ρ w :=
  WL_value hd (by intros; simp [execOp, hx, Op.unary]) h
theorem WL_teql {a b : Bool} (ht : P.underlying t = some .bool) (hd : d < n) (hx : ev ρ x = .bool a) (hy : ev ρ y = .bool b) (h : WL P n ops rest Q (upd ρ d (.bool (a == b))) w) : WL P n ops (⟨some d, .binOp .eql t x y t', ty, pos, after, none⟩ :: rest) Q ρ w :=
  WL_value hd (by intros; simp [execOp, hx, hy, go_sem, ht]) h
theorem WL_tneq {a b : Bool} (ht : P.underlying t = some .bool) (hd : d < n) (hx : ev ρ x = .bool a) (hy : ev ρ y = .bool b) (h : WL P n ops rest Q (upd ρ d (.bool (a != b))) w) : WL P n ops (⟨some d, .binOp .neq t x y t', ty, pos, after, none⟩ :: rest) Q ρ w :=
  WL_value hd (by intros; simp [execOp, hx, hy, go_sem, ht, bne]) h

/-! Strings. -/
theorem WL_seql {a b : List UInt8} (hd : d < n) (hx : ev ρ x = vstr a) (hy : ev ρ y = vstr b) (h : WL P n ops rest Q (upd ρ d (.bool (a == b))) w) : WL P n ops (⟨some d, .binOp .eql t x y t', ty, pos, after, none⟩ :: rest) Q ρ w :=
  WL_value hd (by intros; simp [execOp, hx, hy, vstr, eqGuard, binOp, Op.stringOp]) h
theorem WL_sneq {a b : List UInt8} (hd : d < n) (hx : ev ρ x = vstr a) (hy : ev ρ y = vstr b) (h : WL P n ops rest Q (upd ρ d (.bool (a != b))) w) : WL P n ops (⟨some d, .binOp .neq t x y t', ty, pos, after, none⟩ :: rest) Q ρ w :=
  WL_value hd (by intros; simp [execOp, hx, hy, vstr, eqGuard, binOp, Op.stringOp, bne]) h
theorem WL_sadd {a b r : List UInt8} (hd : d < n) (hx : ev ρ x = vstr a) (hy : ev ρ y = vstr b) (hr : cat a b = some r) (h : WL P n ops rest Q (upd ρ d (vstr r)) w) : WL P n ops (⟨some d, .binOp .add t x y t', ty, pos, after, none⟩ :: rest) Q ρ w := by
  unfold cat at hr
  split at hr
  · rename_i hl
    cases hr
    refine WL_value hd (v := vstr (a ++ b)) (w' := w) ?_ h
    intros
    have h3 : (ByteArray.mk a.toArray ++ ByteArray.mk b.toArray) = ByteArray.mk (a ++ b).toArray := by
      apply ByteArray.ext; simp
    have h4 := run_string_add_sum (P := P) w (ByteArray.mk a.toArray) (ByteArray.mk b.toArray) (by show a.toArray.size + b.toArray.size ≤ _; simp only [List.size_toArray]; omega)
    simp only [execOp, hx, hy, vstr, eqGuard_add, binOp_string_add, Sem.run_bind, Sem.run_pure, Result.andThen_ok, h4, h3]
  · cases hr
theorem size_mk (a : List UInt8) : (ByteArray.mk a.toArray).size = a.length := by show a.toArray.size = _; simp
theorem WL_slen {a : List UInt8} (ht : P.underlying t = some .string) (hd : d < n) (hx : ev ρ x = vstr a) (h : WL P n ops rest Q (upd ρ d (.int .i64 a.length)) w) :
    WL P n ops (⟨some d, .call { callee := .builtin .len, args := #[x], argTypes := #[t] }, ty, pos, after, none⟩ :: rest) Q ρ w :=
  WL_value hd (by
    intros
    have := run_len_string (P := P) w t (ty := ty) (ByteArray.mk a.toArray) ht
    rw [size_mk] at this
    simp only [execOp, resolve, invoke, builtin, Sem.run_bind, Sem.run_pure, Result.andThen_ok, List.map_toArray, List.map_cons, List.map_nil, hx, vstr, run_len_string w t _ _ ht, size_mk, goInt]) h
theorem WL_sindex {a : List UInt8} {k : IntKind} {i : Int} {r : UInt8} (ht : P.underlying t = some .string) (hd : d < n) (hx : ev ρ x = vstr a) (hy : ev ρ y = .int k i) (hr : sget a i = some r) (h : WL P n ops rest Q (upd ρ d (.int .u8 r.toNat)) w) :
    WL P n ops (⟨some d, .index t x y, ty, pos, after, none⟩ :: rest) Q ρ w := by
  unfold sget at hr
  split at hr
  · rename_i hi
    obtain ⟨hl, hr⟩ := List.getElem?_eq_some_iff.1 hr
    refine WL_value hd (v := .int .u8 r.toNat) (w' := w) ?_ h
    intros
    have h2 : 0 ≤ i ∧ i < (ByteArray.mk a.toArray).size := ⟨hi, by rw [size_mk]; omega⟩
    have h3 : (ByteArray.mk a.toArray)[i.toNat]'(by rw [size_mk]; omega) = r := by rw [← hr]; rfl
    simp only [execOp, hx, hy, vstr, Sem.run_bind, run_index_string w t _ k i ht, dif_pos h2, h3, Result.andThen_ok, Sem.run_pure]
  · cases hr
theorem cut_some {α : Type} {a r : List α} {lo hi : Int} (h : cut a lo hi = some r) : 0 ≤ lo ∧ lo ≤ hi ∧ hi ≤ a.length ∧ r = (a.drop lo.toNat).take (hi.toNat - lo.toNat) := by
  unfold cut at h
  split at h
  · rename_i hc
    cases h
    refine ⟨hc.1, hc.2.1, hc.2.2, ?_⟩
    congr 1; omega
  · cases h
theorem WL_sslice {a r : List UInt8} {k k' : IntKind} {lo hi : Int} {xl xh : Operand} (hr : cut a lo hi = some r) (ht : P.underlying t = some .string) (hd : d < n) (hx : ev ρ x = vstr a) (hl : ev ρ xl = .int k lo) (hh : ev ρ xh = .int k' hi) (h : WL P n ops rest Q (upd ρ d (vstr r)) w) :
    WL P n ops (⟨some d, .slice t x (some xl) (some xh) none, ty, pos, after, none⟩ :: rest) Q ρ w := by
  obtain ⟨h1, h2, h3, rfl⟩ := cut_some hr
  refine WL_value hd (w' := w) ?_ h
  intros
  simp only [execOp, Option.map, hx, hl, hh, vstr, Sem.run_bind, run_sliceAt_string w t _ _ _ _ ht, run_slice_string w t _ k k' lo hi ht h1 h2 (by rw [size_mk]; exact h3), Result.andThen_ok, Sem.run_pure, ByteArray.extract_mk]
theorem WL_sslice_h {a r : List UInt8} {k' : IntKind} {hi : Int} {xh : Operand} (hr : cut a 0 hi = some r) (ht : P.underlying t = some .string) (hd : d < n) (hx : ev ρ x = vstr a) (hh : ev ρ xh = .int k' hi) (h : WL P n ops rest Q (upd ρ d (vstr r)) w) :
    WL P n ops (⟨some d, .slice t x none (some xh) none, ty, pos, after, none⟩ :: rest) Q ρ w := by
  obtain ⟨h1, h2, h3, rfl⟩ := cut_some hr
  refine WL_value hd (w' := w) ?_ h
  intros
  simp only [execOp, Option.map, hx, hh, vstr, Sem.run_bind, run_sliceAt_string w t _ _ _ _ ht, run_slice_string_h w t _ ht k' hi h2 (by rw [size_mk]; exact h3), Result.andThen_ok, Sem.run_pure, ByteArray.extract_mk]
  rfl
theorem WL_sslice_l {a r : List UInt8} {k : IntKind} {lo : Int} {xl : Operand} (hr : cut a lo a.length = some r) (ht : P.underlying t = some .string) (hd : d < n) (hx : ev ρ x = vstr a) (hl : ev ρ xl = .int k lo) (h : WL P n ops rest Q (upd ρ d (vstr r)) w) :
    WL P n ops (⟨some d, .slice t x (some xl) none none, ty, pos, after, none⟩ :: rest) Q ρ w := by
  obtain ⟨h1, h2, h3, rfl⟩ := cut_some hr
  refine WL_value hd (w' := w) ?_ h
  intros
  simp only [execOp, Option.map, hx, hl, vstr, Sem.run_bind, run_sliceAt_string w t _ _ _ _ ht, run_slice_string_l w t _ ht k lo h1 (by rw [size_mk]; exact h2), Result.andThen_ok, Sem.run_pure, ByteArray.extract_mk, size_mk]
  rfl
/-- Tuples. -/
theorem WL_extract {vs : Array Value} {i : Nat} {v : Value} (hd : d < n) (hx : ev ρ x = .tuple vs) (hv : vs[i]? = some v) (h : WL P n ops rest Q (upd ρ d v) w) : WL P n ops (⟨some d, .extract x i, ty, pos, after, none⟩ :: rest) Q ρ w :=
  WL_value hd (by intros; simp [execOp, hx, Instr.extract, hv]) h
theorem WL_makeFunc {fn : Fn} {first cap : Array Operand} (hd : d < n) (h : WL P n ops rest Q (upd ρ d (.func fn (first.map (ev ρ)) (cap.map (ev ρ)))) w) : WL P n ops (⟨some d, .makeFunc fn first cap, ty, pos, after, none⟩ :: rest) Q ρ w :=
  WL_value hd (by intros; simp [execOp, Instr.makeFunc]) h
theorem WL_nilCheckP {a : Addr} (hd : d < n) (hx : ev ρ x = .pointer (some a)) (h : WL P n ops rest Q (upd ρ d (.pointer (some a))) w) : WL P n ops (⟨some d, .nilCheck x, ty, pos, after, none⟩ :: rest) Q ρ w :=
  WL_value hd (by intros; simp [execOp, hx]) h
end
end Go.Gx
