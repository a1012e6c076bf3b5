/- M's operations, sound: the quiet ones. -/
import Derived.Test.YtflgkiddnmpfbaaGreatDoorMxG
set_option linter.unusedVariables false
set_option linter.unusedSimpArgs false
namespace Go.Mx
open Go Go.Gx

theorem rv_some {h : Heap} {o : Option AV} {r : Rs} (he : rv h o = some r) : ∃ v, o = some v ∧ r = .val v h := by
  unfold rv at he
  split at he
  · cases he; exact ⟨_, rfl, rfl⟩
  · cases he
theorem rvh_some {o : Option (AV × Heap)} {r : Rs} (he : rvh o = some r) : ∃ v h, o = some (v, h) ∧ r = .val v h := by
  unfold rvh at he
  split at he
  · cases he; exact ⟨_, _, rfl, rfl⟩
  · cases he
theorem ru_some {o : Option Heap} {r : Rs} (he : ru o = some r) : ∃ h, o = some h ∧ r = .unit h := by
  unfold ru at he
  split at he
  · cases he; exact ⟨_, rfl, rfl⟩
  · cases he

section
variable {P : Program} {G : Gh} {B : Nat} {h : Heap} {w : World} {op : Op} {ρ : Operand → Value} {e : Operand → Option AV} {r : Rs}

theorem s_move {x : Operand} (hr : HR G B h w) (he : ∀ x v, e x = some v → V G v (ρ x)) (hm : mop P e h (.move x) = some r) : ROk P G B w (.move x) ρ r := by
  obtain ⟨v, h1, rfl⟩ := rv_some hm
  exact ROk.quiet hr (he _ _ h1) (by intros; simp [execOp])
theorem s_assign {x : Operand} (hr : HR G B h w) (he : ∀ x v, e x = some v → V G v (ρ x)) (hm : mop P e h (.assign x) = some r) : ROk P G B w (.assign x) ρ r := by
  obtain ⟨v, h1, rfl⟩ := rv_some hm
  exact ROk.quiet hr (he _ _ h1) (by intros; simp [execOp])
theorem V_bool {b : Bool} {u : Value} (h : V G (.bool b) u) : u = .bool b := by cases h; rfl
theorem V_int {k : IntKind} {n : Int} {u : Value} (h : V G (.int k n) u) : u = .int k n := by cases h; rfl
theorem V_str {l : List UInt8} {u : Value} (h : V G (.str l) u) : u = vstr l := by cases h; rfl
theorem s_pick {c a b : Operand} (hr : HR G B h w) (he : ∀ x v, e x = some v → V G v (ρ x)) (hm : mop P e h (.pick c a b) = some r) : ROk P G B w (.pick c a b) ρ r := by
  simp only [mop] at hm
  split at hm
  · rename_i hc
    obtain ⟨v, h1, rfl⟩ := rv_some hm
    have := V_bool (he _ _ hc)
    exact ROk.quiet hr (he _ _ h1) (by intros; simp [execOp, this, asBool])
  · rename_i hc
    obtain ⟨v, h1, rfl⟩ := rv_some hm
    have := V_bool (he _ _ hc)
    exact ROk.quiet hr (he _ _ h1) (by intros; simp [execOp, this, asBool])
  · cases hm
theorem s_nilCheck {x : Operand} (hr : HR G B h w) (he : ∀ x v, e x = some v → V G v (ρ x)) (hm : mop P e h (.nilCheck x) = some r) : ROk P G B w (.nilCheck x) ρ r := by
  simp only [mop] at hm
  split at hm <;> try (cases hm; done)
  rename_i v n1 n2 n3 hv
  cases hm
  have hV := he _ _ hv
  refine ROk.quiet hr hV ?_
  intros
  generalize hu : ρ x = u at hV
  cases hV <;> first | exact (n1 rfl).elim | exact (n2 rfl).elim | exact (n3 rfl).elim | (simp [execOp, hu, vstr]; done)
theorem s_binOp {bo : BinOp} {t yt : TypeId} {x y : Operand} (hr : HR G B h w) (he : ∀ x v, e x = some v → V G v (ρ x)) (hm : mop P e h (.binOp bo t x y yt) = some r) : ROk P G B w (.binOp bo t x y yt) ρ r := by
  simp only [mop] at hm
  split at hm
  · rename_i a b ha hb
    split at hm
    · rename_i hg
      obtain ⟨v, h1, rfl⟩ := rv_some hm
      obtain ⟨z, hz, hrun⟩ := mbin_sound h1 (he _ _ ha) (he _ _ hb)
      have hgd := guard_sound hg (he _ _ ha) (he _ _ hb) w
      refine ROk.quiet hr hz ?_
      intros
      show (do pure (Next.value (← (do eqGuard bo t x y (ρ x) (ρ y); binOp bo t (ρ x) (ρ y)))) : Sem Next).run P w = _
      simp only [Sem.run_bind, hgd, hrun w, Result.andThen_ok, Sem.run_pure]
    · cases hm
  · cases hm
theorem s_unOp {u : UnOp} {t : TypeId} {x : Operand} (hr : HR G B h w) (he : ∀ x v, e x = some v → V G v (ρ x)) (hm : mop P e h (.unOp u t x) = some r) : ROk P G B w (.unOp u t x) ρ r := by
  simp only [mop] at hm
  split at hm
  · rename_i hx
    cases hm
    have := V_int (he _ _ hx)
    exact ROk.quiet hr (.int _ _) (by intros; simp [execOp, this, Op.unary, Op.intArith])
  · rename_i hx
    cases hm
    have := V_bool (he _ _ hx)
    exact ROk.quiet hr (.bool _) (by intros; simp [execOp, this, Op.unary])
  · rename_i hx
    cases hm
    have := V_int (he _ _ hx)
    exact ROk.quiet hr (.int _ _) (by intros; simp [execOp, this, Op.unary, Op.intBits, ibits])
  · cases hm
theorem s_makeInterface {t : TypeId} {x : Operand} (hr : HR G B h w) (he : ∀ x v, e x = some v → V G v (ρ x)) (hm : mop P e h (.makeInterface t x) = some r) : ROk P G B w (.makeInterface t x) ρ r := by
  simp only [mop] at hm
  cases hd : P.underlying t with
  | none => rw [hd] at hm; simp at hm
  | some d =>
    rw [hd] at hm
    cases hv : e x with
    | none => rw [hv] at hm; cases d <;> simp at hm
    | some v =>
      rw [hv] at hm
      cases d <;> simp at hm <;> (subst hm; exact ROk.quiet hr (.ifc t (he _ _ hv)) (by intros; simp [execOp, Instr.makeInterface, run_underlying hd]))
theorem s_typeAssert {x : Operand} {xt t : TypeId} {ok : Bool} (hr : HR G B h w) (he : ∀ x v, e x = some v → V G v (ρ x)) (hm : mop P e h (.typeAssert x xt t ok) = some r) : ROk P G B w (.typeAssert x xt t ok) ρ r := by
  cases ok with
  | false => simp [mop] at hm
  | true =>
    simp only [mop] at hm
    split at hm
    · cases hm
    · rename_i d t' v hn hd hx
      have hV := he _ _ hx
      generalize hu : ρ x = u at hV
      cases hV with
      | @ifc _ _ u' hv =>
        split at hm
        · rename_i ht
          subst ht
          cases hm
          refine ROk.quiet hr (.tup (.cons hv (.cons (.bool true) .nil))) ?_
          intros
          cases d <;> first | exact absurd rfl (hn _) | simp [execOp, Instr.typeAssert, run_underlying hd, hu]
        · rename_i ht
          split at hm
          · rename_i z hz
            cases hm
            obtain ⟨z', hz', hvz, _⟩ := run_zero G hz
            refine ROk.quiet hr (.tup (.cons hvz (.cons (.bool false) .nil))) ?_
            intros
            cases d <;> first | exact absurd rfl (hn _) | simp [execOp, Instr.typeAssert, run_underlying hd, hu, ht, hz']
          · cases hm
    · rename_i d hn hd hx
      have hV := he _ _ hx
      generalize hu : ρ x = u at hV
      cases hV
      split at hm
      · rename_i z hz
        cases hm
        obtain ⟨z', hz', hvz, _⟩ := run_zero G hz
        refine ROk.quiet hr (.tup (.cons hvz (.cons (.bool false) .nil))) ?_
        intros
        cases d <;> first | exact absurd rfl (hn _) | simp [execOp, Instr.typeAssert, run_underlying hd, hu, hz']
      · cases hm
    · cases hm
theorem s_makeFunc {f : FuncId} {first cap : Array Operand} (hr : HR G B h w) (he : ∀ x v, e x = some v → V G v (ρ x)) (hm : mop P e h (.makeFunc (.func f) first cap) = some r) : ROk P G B w (.makeFunc (.func f) first cap) ρ r := by
  simp only [mop] at hm
  split at hm
  · rename_i a b ha hb
    cases hm
    refine ROk.quiet hr (.fn f (mevs_sound he ha) (mevs_sound he hb)) ?_
    intros
    simp only [execOp, Instr.makeFunc, Sem.run_bind, Sem.run_pure, Result.andThen_ok, Result.ok.injEq, Next.value.injEq, and_true]
    congr 1 <;> (apply Array.ext'; simp)
  · cases hm
theorem s_extract {x : Operand} {i : Nat} (hr : HR G B h w) (he : ∀ x v, e x = some v → V G v (ρ x)) (hm : mop P e h (.extract x i) = some r) : ROk P G B w (.extract x i) ρ r := by
  simp only [mop] at hm
  split at hm
  · rename_i l hx
    obtain ⟨v, h1, rfl⟩ := rv_some hm
    have hV := he _ _ hx
    generalize hu : ρ x = u at hV
    cases hV with
    | tup hl =>
      obtain ⟨u, h2, h3⟩ := hl.get h1
      exact ROk.quiet hr h3 (by intros; simp [execOp, hu, Instr.extract, h2])
  · cases hm
theorem s_field {t : TypeId} {x : Operand} {f : Nat} (hr : HR G B h w) (he : ∀ x v, e x = some v → V G v (ρ x)) (hm : mop P e h (.field t x f) = some r) : ROk P G B w (.field t x f) ρ r := by
  simp only [mop] at hm
  split at hm
  · rename_i fs cs hd hx
    split at hm
    · rename_i fd hf
      obtain ⟨v, h1, rfl⟩ := rv_some hm
      have hV := he _ _ hx
      generalize hu : ρ x = u at hV
      cases hV with
      | agg hl =>
        obtain ⟨u, h2, h3⟩ := mpart_sound h1 hl
        exact ROk.quiet hr h2 (by intros; simp [execOp, hu, Instr.field, run_underlying hd, hf, asAgg, h3])
    · cases hm
  · cases hm
theorem s_fieldAddr {s : TypeId} {x : Operand} {f : Nat} (hr : HR G B h w) (he : ∀ x v, e x = some v → V G v (ρ x)) (hm : mop P e h (.fieldAddr s x f) = some r) : ROk P G B w (.fieldAddr s x f) ρ r := by
  simp only [mop] at hm
  split at hm
  · rename_i a hx
    obtain ⟨v, h1, rfl⟩ := rv_some hm
    have hV := he _ _ hx
    unfold mfieldAddr at h1
    split at h1
    · rename_i fs loc off ver lim hd
      split at h1
      · rename_i fd hf
        split at h1
        · rename_i n hs
          cases h1
          generalize hu : ρ x = u at hV
          cases hV with
          | @ptr _ _ _ _ r ha h2 h3 =>
            refine ROk.quiet hr (.ptr ha (Nat.le_trans h2 (Nat.le_add_right _ _)) h3) ?_
            intros
            simp only [execOp, hu, Sem.run_bind, run_fieldAt hd hf (run_sizeOf hs), Result.andThen_ok, Sem.run_pure]
            rw [show off + r.sh - r.lo + fd.offset = off + fd.offset + r.sh - r.lo from by omega]
        · cases h1
      · cases h1
    · cases h1
  · cases hm
theorem s_indexAddr {t : TypeId} {x i : Operand} (hr : HR G B h w) (he : ∀ x v, e x = some v → V G v (ρ x)) (hm : mop P e h (.indexAddr t x i) = some r) : ROk P G B w (.indexAddr t x i) ρ r := by
  simp only [mop] at hm
  split at hm
  · rename_i a b hx hi
    obtain ⟨v, h1, rfl⟩ := rv_some hm
    have hV := he _ _ hx
    have hI := he _ _ hi
    unfold mindexAddr at h1
    split at h1
    · rename_i len el loc off ver lim k n hd
      split at h1
      · rename_i z hz
        split at h1
        · rename_i hc
          cases h1
          have hI' := V_int hI
          generalize hu : ρ x = u at hV
          cases hV with
          | @ptr _ _ _ _ r ha h2 h3 =>
            refine ROk.quiet hr (.ptr ha (Nat.le_trans h2 (Nat.le_add_right _ _)) h3) ?_
            intros
            simp only [execOp, hu, hI', Sem.run_bind]
            rw [show (Instr.indexAt t (.pointer (some ⟨r.b, off + r.sh - r.lo, none⟩)) (.int k n)).run P w = .ok (.pointer (some ⟨r.b, off + n.toNat * z + r.sh - r.lo, none⟩)) w from by
              rw [show off + n.toNat * z + r.sh - r.lo = off + r.sh - r.lo + n.toNat * z from by omega]
              simp [Instr.indexAt, Instr.sureAddr, asIntOf, run_underlying hd, run_sizeOf hz, Addr.add_lit, hc.1, hc.2]]
            rfl
        · cases h1
      · cases h1
    · rename_i el loc off len sz ver clip k n hd
      split at h1
      · rename_i z hz
        split at h1
        · rename_i hc
          obtain ⟨rfl, hc1, hc2⟩ := hc
          cases h1
          have hI' := V_int hI
          generalize hu : ρ x = u at hV
          cases hV with
          | @sl _ _ _ _ _ cap _ r ha h2 h3 h4 h5 h6 h7 h8 h9 =>
            refine ROk.quiet hr (.ptr ha (Nat.le_trans h2 (Nat.le_add_right _ _)) h3) ?_
            intros
            simp only [execOp, hu, hI', Sem.run_bind]
            rw [show (Instr.indexAt t (.slice (some ⟨r.b, off + r.sh - r.lo, none⟩) len cap) (.int k n)).run P w = .ok (.pointer (some ⟨r.b, off + n.toNat * z + r.sh - r.lo, none⟩)) w from by
              rw [show off + n.toNat * z + r.sh - r.lo = off + r.sh - r.lo + n.toNat * z from by omega]
              simp [Instr.indexAt, Instr.sureAddr, asIntOf, run_underlying hd, run_sizeOf hz, Addr.add_lit, hc1, hc2]]
            rfl
          | sl0 => omega
        · cases h1
      · cases h1
    · cases h1
  · cases hm
theorem s_index {t : TypeId} {x i : Operand} (hr : HR G B h w) (he : ∀ x v, e x = some v → V G v (ρ x)) (hm : mop P e h (.index t x i) = some r) : ROk P G B w (.index t x i) ρ r := by
  simp only [mop] at hm
  split at hm
  · rename_i a b hx hi
    obtain ⟨v, h1, rfl⟩ := rv_some hm
    have hV := he _ _ hx
    have hI := he _ _ hi
    unfold mindex at h1
    split at h1
    · rename_i l k n hd
      split at h1
      · rename_i h0
        split at h1
        · rename_i b hb
          cases h1
          have hI' := V_int hI
          have hS := V_str hV
          refine ROk.quiet hr (.int _ _) ?_
          intros
          obtain ⟨hlt, hb'⟩ := List.getElem?_eq_some_iff.1 hb
          have h2 : 0 ≤ n ∧ n < (ByteArray.mk l.toArray).size := ⟨h0, by rw [size_mk]; omega⟩
          have h3 : (ByteArray.mk l.toArray)[n.toNat]'(by rw [size_mk]; omega) = b := by rw [← hb']; rfl
          simp only [execOp, hS, hI', vstr, Sem.run_bind, run_index_string w t _ k n hd, dif_pos h2, h3, Result.andThen_ok, Sem.run_pure]
        · cases h1
      · cases h1
    · rename_i len el cs k n hd
      split at h1
      · rename_i z hz
        split at h1
        · rename_i hc
          have hI' := V_int hI
          generalize hu : ρ x = u at hV
          cases hV with
          | agg hl =>
            obtain ⟨u, h2, h3⟩ := mpart_sound h1 hl
            refine ROk.quiet hr h2 ?_
            intros
            simp [execOp, hu, hI', Instr.index, asIntOf, run_underlying hd, run_sizeOf hz, hc.1, hc.2, h3]
        · cases h1
      · cases h1
    · cases h1
  · cases hm
end
end Go.Mx
