/- M's operations, sound: comparisons; the quiet ones. -/
import Derived.Test.YtflgkiddnmpfbaaGreatDoorMxF
set_option linter.unusedVariables false
set_option linter.unusedSimpArgs false
namespace Go.Mx
open Go Go.Gx

section
variable {P : Program} {G : Gh} {B : Nat} {h : Heap} {w : World} {op : Op} {ρ : Operand → Value} {e : Operand → Option AV}

theorem mpart_sound {t : TypeId} {cs : List AV} {us : List Value} {off : Nat} {x : AV} (hp : mpart P t cs off = some x) (hx : VL G cs us) : ∃ u, V G x u ∧ ∀ w, (part t us.toArray off).run P w = .ok u w := by
  unfold mpart at hp
  split at hp
  · rename_i n h1 h2
    cases hp
    refine ⟨_, .agg ((hx.drop off).take n), fun w => ?_⟩
    simp [part, run_isAgg h1, run_sizeOf h2, List.extract_toArray, List.extract_eq_take_drop]
  · rename_i h1
    obtain ⟨u, h2, h3⟩ := hx.get hp
    exact ⟨u, h3, fun w => by simp [part, run_isAgg h1, h2]⟩
  · cases hp

theorem wide_some {t : TypeId} (h : wide P t = true) : ∃ n, szOf P t = some (n + 1) := by
  unfold wide at h
  split at h
  · exact ⟨_, by assumption⟩
  · cases h

theorem meq_sound : ∀ {d : Nat} {t : TypeId} {x y : AV} {r : Bool} {u v : Value}, meq P d t x y = some r → V G x u → V G y v → ∀ (D : Nat), d ≤ D → ∀ w, (Op.equalIn D t u v).run P w = .ok r w
  | 0, _, _, _, _, _, _, h, _, _, _, _, _ => by cases h
  | d + 1, t, x, y, r, u, v, h, hx, hy, 0, hD, _ => by omega
  | d + 1, t, x, y, r, u, v, h, hx, hy, D + 1, hD, w => by
    unfold meq at h
    split at h
    · rename_i a b ht; obtain rfl := Option.some.inj h; cases hx; cases hy; rw [run_equalIn_bool' w D t a b ht]
    · rename_i k0 k a k' b ht
      split at h
      · rename_i hk; subst hk; cases h; cases hx; cases hy; rw [run_equalIn_int w D t k k0 a b ht]
      · cases h
    · rename_i a b ht; obtain rfl := Option.some.inj h; cases hx; cases hy
      rw [show vstr a = Value.string ⟨a.toArray⟩ from rfl, show vstr b = Value.string ⟨b.toArray⟩ from rfl, run_equalIn_string w D t _ _ ht]
      simp
    · rename_i ht; obtain rfl := Option.some.inj h; cases hx; cases hy; unfold Op.equalIn; rw [Sem.run_bind, run_underlying ht]; simp
    · rename_i ht; obtain rfl := Option.some.inj h; cases hx; cases hy; unfold Op.equalIn; rw [Sem.run_bind, run_underlying ht]; simp
    · rename_i ht; obtain rfl := Option.some.inj h; cases hx; cases hy; unfold Op.equalIn; rw [Sem.run_bind, run_underlying ht]; simp
    · rename_i el l o vr lm l' o' vr' lm' ht
      split at h
      · rename_i hc
        obtain ⟨rfl, rfl, hz⟩ := hc
        cases h
        cases hx with
        | ptr a1 a2 a3 =>
          cases hy with
          | ptr b1 b2 b3 =>
            rw [a1] at b1; cases b1
            obtain ⟨n, hs⟩ := wide_some hz
            unfold Op.equalIn; rw [Sem.run_bind, run_underlying ht]
            simp [run_sizeOf hs, sameAddr]
            rw [Bool.eq_iff_iff]; simp; omega
      · cases h
    · rename_i ht; obtain rfl := Option.some.inj h; cases hx; cases hy; unfold Op.equalIn; rw [Sem.run_bind, run_underlying ht]; simp
    · rename_i ht; obtain rfl := Option.some.inj h; cases hx; cases hy; unfold Op.equalIn; rw [Sem.run_bind, run_underlying ht]; simp
    · rename_i ht; obtain rfl := Option.some.inj h; cases hx; cases hy; unfold Op.equalIn; rw [Sem.run_bind, run_underlying ht]; simp
    · rename_i ht; obtain rfl := Option.some.inj h; cases hx; cases hy; unfold Op.equalIn; rw [Sem.run_bind, run_underlying ht]; simp
    · rename_i ht; obtain rfl := Option.some.inj h; cases hx; cases hy; unfold Op.equalIn; rw [Sem.run_bind, run_underlying ht]; simp
    · rename_i fs xs ys ht
      split at h
      · cases h
      · rename_i hst
        cases hx with
        | agg hx =>
          cases hy with
          | agg hy =>
            rename_i us vs
            have hf : P.fieldsOf t = fs := by unfold Program.fieldsOf; rw [ht]
            rw [run_equalIn_struct w D t _ _ (by rw [hf]; exact ht) (by simpa using hst), hf]
            generalize fs.toList = l at h
            induction l with
            | nil => cases h; simp [Op.eqFields]
            | cons f l ih =>
              unfold mall at h
              unfold Op.eqFields
              split at h
              · rename_i hn
                rw [if_pos hn]
                cases ha : mpart P f.type xs f.offset with
                | none => rw [ha] at h; simp at h
                | some a =>
                  cases hb : mpart P f.type ys f.offset with
                  | none => rw [ha, hb] at h; simp at h
                  | some b =>
                    rw [ha, hb] at h
                    obtain ⟨ua, va, ra⟩ := mpart_sound ha hx
                    obtain ⟨ub, vb, rb⟩ := mpart_sound hb hy
                    simp only at h
                    cases hm : meq P d f.type a b with
                    | none => rw [hm] at h; cases h
                    | some q =>
                      rw [hm] at h
                      have := meq_sound hm va vb D (by omega) w
                      cases q with
                      | true => simp only at h; simp [ra, rb, this]; exact ih h
                      | false => simp only at h; cases h; simp [ra, rb, this]
              · rename_i hn
                rw [if_neg hn]; exact ih h
    · rename_i ht; obtain rfl := Option.some.inj h; cases hx; cases hy; unfold Op.equalIn; rw [Sem.run_bind, run_underlying ht]; simp
    · rename_i ht; obtain rfl := Option.some.inj h; cases hx; cases hy <;> (unfold Op.equalIn; rw [Sem.run_bind, run_underlying ht]; simp)
    · rename_i ht; obtain rfl := Option.some.inj h; cases hy; cases hx <;> (unfold Op.equalIn; rw [Sem.run_bind, run_underlying ht]; simp)
    · rename_i ht; obtain rfl := Option.some.inj h; cases hx; cases hy; unfold Op.equalIn; rw [Sem.run_bind, run_underlying ht]; simp
    · rename_i ht; obtain rfl := Option.some.inj h; cases hx; cases hy; unfold Op.equalIn; rw [Sem.run_bind, run_underlying ht]; simp
    · rename_i ht; obtain rfl := Option.some.inj h; cases hx; cases hy; unfold Op.equalIn; rw [Sem.run_bind, run_underlying ht]; simp
    · rename_i ht; obtain rfl := Option.some.inj h; cases hx; cases hy; unfold Op.equalIn; rw [Sem.run_bind, run_underlying ht]; simp
    · rename_i ht; obtain rfl := Option.some.inj h; cases hx; cases hy; unfold Op.equalIn; rw [Sem.run_bind, run_underlying ht]; simp
    · rename_i ht; obtain rfl := Option.some.inj h; cases hx; cases hy; unfold Op.equalIn; rw [Sem.run_bind, run_underlying ht]; simp
    · cases h

theorem isC_of {x : Operand} (h : isC x = true) : ∃ v, x = .const v := by cases x <;> simp [isC] at h; exact ⟨_, rfl⟩

theorem guard_sound {bo : BinOp} {t : TypeId} {x y : Operand} {a b : AV} {u v : Value} (h : guardOk P bo t x y a b = true) (hx : V G a u) (hy : V G b v) (w : World) : (eqGuard bo t x y u v).run P w = .ok () w := by
  have key : (bo = .eql ∨ bo = .neq) → guardAB P t x y a b = true → (eqGuard bo t x y u v).run P w = .ok () w := by
    intro hbo h
    cases hx <;> cases hy <;> (try (rcases hbo with rfl | rfl <;> simp [eqGuard, vstr]; done))
    · simp only [guardAB, Bool.or_eq_true] at h
      rcases h with h | h <;> (obtain ⟨c, rfl⟩ := isC_of h; rcases hbo with rfl | rfl <;> simp [eqGuard])
    · have hg : P.eqGuardType P.depth t = false := by simpa [guardAB] using h
      exact run_eqGuard_agg w bo t x y _ _ hg
  cases bo <;> first | exact key (.inl rfl) h | exact key (.inr rfl) h | (simp [eqGuard]; done)

theorem mbin_sound {bo : BinOp} {t : TypeId} {a b c : AV} {u v : Value} (h : mbin P bo t a b = some c) (hx : V G a u) (hy : V G b v) : ∃ z, V G c z ∧ ∀ w, (binOp bo t u v).run P w = .ok z w := by
  unfold mbin at h
  split at h
  · rename_i k a k' b
    cases hx; cases hy
    split at h
    · unfold mshift at h
      split at h
      · cases h
      · rename_i hb; cases h; exact ⟨_, .int _ _, fun w => by simp [binOp, Op.shift, hb]⟩
    · unfold mshift at h
      split at h
      · cases h
      · rename_i hb; cases h; exact ⟨_, .int _ _, fun w => by simp [binOp, Op.shift, hb]⟩
    · rename_i h1 h2
      split at h
      · rename_i hk
        subst hk
        obtain ⟨z, hz, hrun⟩ := mint_sound (P := P) (G := G) (t := t) h
        exact ⟨z, hz, hrun h1 h2⟩
      · cases h
  · cases hx; cases hy
    exact mstr_sound h
  · cases h
  · cases h
  · cases hx
    cases hy with
    | iv g1 g2 =>
      split at h
      · split at h
        · cases h
          rename_i hle
          exact ⟨_, .bool true, fun w => by simp [binOp, Op.intCmp]; omega⟩
        · split at h
          · cases h
            rename_i hle
            exact ⟨_, .bool false, fun w => by simp [binOp, Op.intCmp]; omega⟩
          · cases h
      · cases h
  · cases h
  · cases h
  · rename_i hn3 hn4 hn5 hn6 hn7 hn1 hn2
    have heq : ∀ r, meq P 8 t a b = some r → ∀ w, (Op.equal t u v).run P w = .ok r w := fun r hr w => meq_sound hr hx hy 10000 (by omega) w
    split at h
    · split at h
      · rename_i r hr
        cases h
        refine ⟨_, .bool r, fun w => ?_⟩
        have : binOp .eql t u v = (do pure (.bool (← Op.equal t u v))) := by
          cases hx <;> cases hy <;> first | rfl | exact (hn7 _ _ _ _ rfl rfl).elim | exact (hn1 _ _ rfl rfl).elim | exact (hn3 rfl).elim | exact (hn4 _ _ rfl).elim | exact (hn5 rfl).elim | exact (hn6 _ _ rfl).elim | skip
        rw [this]; simp [heq r hr w]
      · cases h
    · split at h
      · rename_i r hr
        cases h
        refine ⟨_, .bool _, fun w => ?_⟩
        have : binOp .neq t u v = (do pure (.bool (!(← Op.equal t u v)))) := by
          cases hx <;> cases hy <;> first | rfl | exact (hn7 _ _ _ _ rfl rfl).elim | exact (hn1 _ _ rfl rfl).elim | exact (hn3 rfl).elim | exact (hn4 _ _ rfl).elim | exact (hn5 rfl).elim | exact (hn6 _ _ rfl).elim | skip
        rw [this]; simp [heq r hr w]
      · cases h
    · cases h
end
end Go.Mx
