/- M's operations, sound: those without memory. -/
import Derived.Test.YtflgkiddnmpfbaaGreatDoorMxE
set_option linter.unusedVariables false
set_option linter.unusedSimpArgs false
namespace Go.Mx
open Go Go.Gx

def ROk (P : Program) (G : Gh) (B : Nat) (w : World) (op : Op) (ρ : Operand → Value) : Rs → Prop
  | .val v h' => ∃ w' u G', (∀ dst ty pos after g, (execOp ρ ⟨dst, op, ty, pos, after, g⟩).run P w = .ok (.value u) w') ∧ Step G G' B h' w w' ∧ V G' v u
  | .unit h' => ∃ w' G', (∀ dst ty pos after g, (execOp ρ ⟨dst, op, ty, pos, after, g⟩).run P w = .ok .skip w') ∧ Step G G' B h' w w'
  | .dfr f args cap => ∃ us vc, VL G args us ∧ VL G cap vc ∧ ∀ dst ty pos after g, (execOp ρ ⟨dst, op, ty, pos, after, g⟩).run P w = .ok (.defer { target := .fn (.func f) vc.toArray, args := us.toArray }) w
  | .call (.y loc) args => ∃ us r, VL G args us ∧ G.at loc 0 = some r ∧ ∀ dst ty pos after g, (execOp ρ ⟨dst, op, ty, pos, after, g⟩).run P w = (Instr.yield r.b us.toArray).run P w
  | .call (.f f) args => ∃ us, VL G args us ∧ ∀ dst ty pos after g, (execOp ρ ⟨dst, op, ty, pos, after, g⟩).run P w = (callFunc f us.toArray).run P w

section
variable {P : Program} {G : Gh} {B : Nat} {h : Heap} {w : World} {op : Op} {ρ : Operand → Value} {e : Operand → Option AV}

theorem ROk.quiet {v : AV} {u : Value} (hr : HR G B h w) (hv : V G v u) (hrun : ∀ dst ty pos after g, (execOp ρ ⟨dst, op, ty, pos, after, g⟩).run P w = .ok (.value u) w) : ROk P G B w op ρ (.val v h) :=
  ⟨w, u, G, hrun, .refl hr, hv⟩

theorem ofConst1_sound (G : Gh) {v : Value} {x : AV} (h : ofConst1 v = some x) : V G x v := by
  unfold ofConst1 at h
  split at h
  case h_9 =>
    split at h
    · rename_i f first cap hc
      cases h
      obtain ⟨h1, h2⟩ := hc
      obtain rfl : first = #[] := by simpa using h1
      obtain rfl : cap = #[] := by simpa using h2
      exact .fn f .nil .nil
    · cases h
  case h_10 =>
    split at h
    · rename_i cs hc
      cases h
      obtain rfl : cs = #[] := by simpa using hc
      exact .tup .nil
    · cases h
  case h_3 => cases h; rename_i s; exact .str s.data.toList
  all_goals first | cases h | skip
  all_goals constructor
theorem ofConsts_sound (G : Gh) : ∀ {vs : List Value} {xs : List AV}, ofConsts vs = some xs → VL G xs vs
  | [], _, h => by cases h; exact .nil
  | v :: l, xs, h => by
    unfold ofConsts at h
    split at h
    · rename_i x xs' h1 h2
      cases h
      exact .cons (ofConst1_sound G h1) (ofConsts_sound G h2)
    · cases h
theorem ofConst2_sound (G : Gh) {v : Value} {x : AV} (h : ofConst2 v = some x) : V G x v := by
  unfold ofConst2 at h
  split at h
  · rename_i cs
    cases hc : ofConsts cs.toList with
    | none => rw [hc] at h; cases h
    | some xs =>
      rw [hc] at h
      cases h
      have := V.agg (ofConsts_sound G hc)
      simpa using this
  · exact ofConst1_sound G h
theorem ofConst_sound (G : Gh) {v : Value} {x : AV} (h : ofConst v = some x) : V G x v := by
  unfold ofConst at h
  split at h
  · rename_i t v
    cases hc : ofConst2 v with
    | none => rw [hc] at h; cases h
    | some y => rw [hc] at h; cases h; exact .ifc t (ofConst2_sound G hc)
  · exact ofConst2_sound G h

theorem mevs_sound (he : ∀ x v, e x = some v → V G v (ρ x)) : ∀ {l : List Operand} {vs : List AV}, mevs e l = some vs → VL G vs (l.map ρ)
  | [], _, h => by cases h; exact .nil
  | x :: l, vs, h => by
    unfold mevs at h
    split at h
    · rename_i v vs' h1 h2
      cases h
      exact .cons (he x v h1) (mevs_sound he h2)
    · cases h
theorem mparts_sound (he : ∀ x v, e x = some v → V G v (ρ x)) : ∀ {l : List (Nat × Operand)} {vs : List (Nat × AV)}, mparts e l = some vs → vs.map (·.1) = l.map (·.1) ∧ VL G (vs.map (·.2)) (l.map fun p => ρ p.2)
  | [], _, h => by cases h; exact ⟨rfl, .nil⟩
  | (i, x) :: l, vs, h => by
    unfold mparts at h
    split at h
    · rename_i v vs' h1 h2
      cases h
      obtain ⟨h3, h4⟩ := mparts_sound he h2
      exact ⟨by simp [h3], .cons (he x v h1) h4⟩
    · cases h

theorem run_sizeOf {t : TypeId} {n : Nat} (h : szOf P t = some n) (w : World) : (sizeOf t).run P w = .ok n w := by
  unfold szOf at h
  cases hi : P.info? t with
  | none => rw [hi] at h; cases h
  | some i => rw [hi] at h; cases h; simp [sizeOf, typeInfo, hi]
theorem run_isAgg {t : TypeId} {b : Bool} (h : aggT P t = some b) (w : World) : (isAgg t).run P w = .ok b w := by
  unfold aggT at h
  cases hd : P.underlying t with
  | none => rw [hd] at h; cases h
  | some d =>
    rw [hd] at h
    cases d <;> (cases h; simp [isAgg, run_underlying hd])
theorem run_zero {t : TypeId} {x : AV} (G : Gh) (h : zeroOf P t = some x) : ∃ z, (∀ w, (zeroValue t).run P w = .ok z w) ∧ V G x z ∧ ∃ i, P.info? t = some i ∧ i.zero = some z := by
  unfold zeroOf at h
  split at h
  · rename_i i hi
    split at h
    · rename_i z hz
      exact ⟨z, fun w => by simp [zeroValue, typeInfo, hi, hz], ofConst_sound G h, i, hi, hz⟩
    · cases h
  · cases h

/-! Integers, strings. -/
theorem mint_sound {op : BinOp} {k : IntKind} {a b : Int} {x : AV} {t : TypeId} (h : mint op k a b = some x) : ∃ u, V G x u ∧ (op ≠ .shl → op ≠ .shr → ∀ w, (binOp op t (.int k a) (.int k b)).run P w = .ok u w) := by
  unfold mint at h
  split at h
  case h_1 | h_2 | h_3 => cases h; exact ⟨_, .int _ _, fun _ _ w => by simp [binOp, Op.intArith]⟩
  case h_4 | h_5 =>
    split at h
    · cases h
    · rename_i hb; cases h; exact ⟨_, .int _ _, fun _ _ w => by simp [binOp, Op.intDiv, hb]⟩
  case h_6 | h_7 | h_8 | h_9 => cases h; exact ⟨_, .int _ _, fun _ _ w => by simp [binOp, Op.intBits, ibits]⟩
  case h_10 | h_11 | h_12 | h_13 | h_14 => cases h; exact ⟨_, .bool _, fun _ _ w => by simp [binOp, Op.intCmp]⟩
  case h_15 => cases h; exact ⟨_, .bool _, fun _ _ w => by simp [binOp, Op.intCmp, bne]⟩
  case h_16 => cases h
theorem mstr_sound {op : BinOp} {a b : List UInt8} {x : AV} {t : TypeId} (h : mstr op a b = some x) : ∃ u, V G x u ∧ ∀ w, (binOp op t (vstr a) (vstr b)).run P w = .ok u w := by
  unfold mstr at h
  split at h <;> first | cases h | skip
  · split at h
    · rename_i hl
      cases h
      refine ⟨_, .str _, fun w => ?_⟩
      have h3 : (ByteArray.mk a.toArray ++ ByteArray.mk b.toArray) = ByteArray.mk (a ++ b).toArray := by
        apply ByteArray.ext; simp
      have h4 := run_string_add_sum (P := P) w (ByteArray.mk a.toArray) (ByteArray.mk b.toArray) (by show a.toArray.size + b.toArray.size ≤ _; simp only [List.size_toArray]; omega)
      unfold vstr
      simp only [binOp_string_add, h4, h3]
    · cases h
  all_goals exact ⟨_, .bool _, fun w => by simp [binOp, vstr, Op.stringOp, bne]⟩
end
end Go.Mx
