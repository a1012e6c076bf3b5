/- Structs compared, max and min. -/
import Derived.Test.YtfkgbpkgggaphaaGreatDoorGxQ
import Derived.Laws.StructEq
namespace Go.Gx
open Go
def maxI (a b : Int) : Int := if b > a then b else a
def minI (a b : Int) : Int := if b < a then b else a
theorem nonnegD {b : Int} (h : decide (b < 0) = false) : 0 ≤ b := by simp at h; exact h
section
variable {P : Program} {n : Nat} {Q : Exit → Env → World → Prop} {ρ : Env} {w w' : World} {ops : Array Oper} {rest : List Oper} {d : Nat} {ty : TypeId} {pos : String} {after : Array Edge}
  {x y c : Operand} {t t' : TypeId} {O0 K O : List Nat} {w0 : World} {L : List Fact} {τ : Type} {r : Rp τ}
theorem WL_imax {k : IntKind} {a b : Int} (hd : d < n) (hx : ev ρ x = .int k a) (hy : ev ρ y = .int k b) (h : WL P n ops rest Q (upd ρ d (.int k (maxI a b))) w) :
    WL P n ops (⟨some d, .call { callee := .builtin .max, args := #[x, y], argTypes := #[t, t'] }, ty, pos, after, none⟩ :: rest) Q ρ w :=
  WL_value hd (by intros; simp [execOp, resolve, invoke, builtin, hx, hy, Builtin.max_, Builtin.max2, maxI]) h
theorem WL_imin {k : IntKind} {a b : Int} (hd : d < n) (hx : ev ρ x = .int k a) (hy : ev ρ y = .int k b) (h : WL P n ops rest Q (upd ρ d (.int k (minI a b))) w) :
    WL P n ops (⟨some d, .call { callee := .builtin .min, args := #[x, y], argTypes := #[t, t'] }, ty, pos, after, none⟩ :: rest) Q ρ w :=
  WL_value hd (by intros; simp [execOp, resolve, invoke, builtin, hx, hy, Builtin.min_, Builtin.min2, minI]) h
theorem WL_ageql {xs ys : Array Value} {b : Bool} (hg : P.eqGuardType P.depth t = false) (hd : d < n) (hx : ev ρ x = .agg xs) (hy : ev ρ y = .agg ys) (he : (Op.equal t (.agg xs) (.agg ys)).run P w = .ok b w)
    (h : WL P n ops rest Q (upd ρ d (.bool b)) w) : WL P n ops (⟨some d, .binOp .eql t x y t', ty, pos, after, none⟩ :: rest) Q ρ w := by
  refine WL_value hd (fun dst ty pos after g => ?_) h
  show (do pure (Next.value (← (do eqGuard .eql t x y (ev ρ x) (ev ρ y); binOp .eql t (ev ρ x) (ev ρ y)))) : Sem Next).run P w = _
  rw [hx, hy, show binOp .eql t (.agg xs) (.agg ys) = (do pure (.bool (← Op.equal t (.agg xs) (.agg ys)))) from rfl]
  simp only [Sem.run_bind, run_eqGuard_agg w .eql t x y xs ys hg, he, Sem.run_pure, Result.andThen_ok]
theorem WL_agneq {xs ys : Array Value} {b : Bool} (hg : P.eqGuardType P.depth t = false) (hd : d < n) (hx : ev ρ x = .agg xs) (hy : ev ρ y = .agg ys) (he : (Op.equal t (.agg xs) (.agg ys)).run P w = .ok b w)
    (h : WL P n ops rest Q (upd ρ d (.bool (!b))) w) : WL P n ops (⟨some d, .binOp .neq t x y t', ty, pos, after, none⟩ :: rest) Q ρ w := by
  refine WL_value hd (fun dst ty pos after g => ?_) h
  show (do pure (Next.value (← (do eqGuard .neq t x y (ev ρ x) (ev ρ y); binOp .neq t (ev ρ x) (ev ρ y)))) : Sem Next).run P w = _
  rw [hx, hy, show binOp .neq t (.agg xs) (.agg ys) = (do pure (.bool (!(← Op.equal t (.agg xs) (.agg ys))))) from rfl]
  simp only [Sem.run_bind, run_eqGuard_agg w .neq t x y xs ys hg, he, Sem.run_pure, Result.andThen_ok]
def shl8 (x : UInt8) (n : Int) : UInt8 := u8of (((UInt8.toNat x : Nat) : Int) * 2 ^ (min n.toNat 8))
def shr8 (x : UInt8) (n : Int) : UInt8 := u8of (((UInt8.toNat x / 2 ^ (min n.toNat 8) : Nat)) : Int)
theorem wrap_u8of (a : Int) : IntKind.u8.wrap a = ((u8of a).toNat : Int) := by
  unfold u8of
  have h1 : 0 ≤ IntKind.u8.wrap a ∧ IntKind.u8.wrap a < 256 := by rw [IntKind.wrap_u8]; omega
  rw [UInt8.toNat_ofNat_of_lt' (by show _ < 256; omega)]; omega
theorem WL_bshl {k' : IntKind} {a : UInt8} {b : Int} (hb : 0 ≤ b) (hd : d < n) (hx : ev ρ x = .int .u8 (a.toNat : Nat)) (hy : ev ρ y = .int k' b) (h : WL P n ops rest Q (upd ρ d (.int .u8 ((shl8 a b).toNat : Nat))) w) :
    WL P n ops (⟨some d, .binOp .shl t x y t', ty, pos, after, none⟩ :: rest) Q ρ w := by
  refine WL_ishl hb hd hx hy ?_
  rw [wrap_u8of]; exact h
theorem WL_bshr {k' : IntKind} {a : UInt8} {b : Int} (hb : 0 ≤ b) (hd : d < n) (hx : ev ρ x = .int .u8 (a.toNat : Nat)) (hy : ev ρ y = .int k' b) (h : WL P n ops rest Q (upd ρ d (.int .u8 ((shr8 a b).toNat : Nat))) w) :
    WL P n ops (⟨some d, .binOp .shr t x y t', ty, pos, after, none⟩ :: rest) Q ρ w := by
  refine WL_ishr hb hd hx hy ?_
  have h1 : Int.fdiv ((a.toNat : Nat) : Int) (2 ^ min b.toNat (IntKind.bits .u8)) = ((a.toNat / 2 ^ (min b.toNat 8) : Nat) : Int) := by
    rw [show IntKind.bits .u8 = 8 from rfl, Int.fdiv_eq_ediv_of_nonneg _ (Int.pow_nonneg (by decide))]
    push_cast
    rfl
  have h2 : ((shr8 a b).toNat : Int) = ((a.toNat / 2 ^ (min b.toNat 8) : Nat) : Int) := by
    have h3 : a.toNat / 2 ^ (min b.toNat 8) < 256 := Nat.lt_of_le_of_lt (Nat.div_le_self _ _) a.toNat_lt
    unfold shr8
    generalize a.toNat / 2 ^ (min b.toNat 8) = z at *
    rw [← wrap_u8of, IntKind.wrap_u8]; omega
  rw [h1, ← h2]; exact h
/-! A store in the first part of a drawn region. -/
theorem WL_storeB {b off j : Nat} {X Lb : List Fact} {cells cells' vs : List Value} {T T' : TypeId} {v : Value} (hC : Ctx O0 K w0 O w (X ++ Lb)) (hj : Lb[j]? = some (.box b cells T)) (hv : v.cells = vs.toArray) (hz : ∀ w, (sizeOf T').run P w = .ok vs.length w)
    (h1 : vs.all Value.oneCell' = true) (hl : off + vs.length ≤ cells.length) (hc : cells.take off ++ vs ++ cells.drop (off + vs.length) = cells')
    (hx : ev ρ x = .pointer (some ⟨b, off, none⟩)) (hy : ev ρ y = v) (h : ∀ w', Ctx O0 K w0 O w' (X ++ Lb.set j (.box b cells' T)) → WL P n ops rest Q ρ w') :
    WL P n ops (⟨none, .store T' x y, ty, pos, after, none⟩ :: rest) Q ρ w :=
  WL_storeBox' hC (base_at X hj) hv hz h1 hl hc hx hy fun w' hw => h w' (by rw [List.set_append_right _ _ (by omega), Nat.add_sub_cancel_left] at hw; exact hw)
theorem WL_storeX {b off : Nat} {X Lb : List Fact} {cells cells' vs : List Value} {T T' : TypeId} {v : Value} (hC : Ctx O0 K w0 O w (X ++ Lb)) (hm : .box b cells T ∈ X) (hv : v.cells = vs.toArray) (hz : ∀ w, (sizeOf T').run P w = .ok vs.length w)
    (h1 : vs.all Value.oneCell' = true) (hl : off + vs.length ≤ cells.length) (hc : cells.take off ++ vs ++ cells.drop (off + vs.length) = cells')
    (hx : ev ρ x = .pointer (some ⟨b, off, none⟩)) (hy : ev ρ y = v) (h : ∀ w' X', Ctx O0 K w0 O w' (X' ++ Lb) → .box b cells' T ∈ X' → (∀ f, f ∈ X → f ≠ .box b cells T → f ∈ X') → WL P n ops rest Q ρ w') :
    WL P n ops (⟨none, .store T' x y, ty, pos, after, none⟩ :: rest) Q ρ w := by
  obtain ⟨i, hi⟩ := List.mem_iff_getElem?.1 hm
  have hil : i < X.length := (List.getElem?_eq_some_iff.1 hi).1
  refine WL_storeBox' hC (by rw [List.getElem?_append_left hil]; exact hi) hv hz h1 hl hc hx hy fun w' hw => h w' (X.set i (.box b cells' T)) (by rw [List.set_append_left _ _ hil] at hw; exact hw) (List.mem_set hil _) fun f hf hne => ?_
  obtain ⟨k, hk⟩ := List.mem_iff_getElem?.1 hf
  refine List.mem_iff_getElem?.2 ⟨k, ?_⟩
  rw [List.getElem?_set]
  split
  · rename_i e; subst e; rw [hi] at hk; exact absurd (Option.some.inj hk).symm hne
  · exact hk
end
end Go.Gx
