/- Calls whose body is walked in place; pointers and nil values compared; values of functions. -/
import Derived.Test.YtfkgbpkgggaphaaGreatDoorGxM
namespace Go.Gx
open Go
section
variable {P : Program} {n : Nat} {Q : Exit → Env → World → Prop} {ρ : Env} {w : World} {ops : Array Oper} {rest : List Oper} {d : Nat} {ty : TypeId} {pos : String} {after : Array Edge}
  {x y c : Operand} {t t' : TypeId} {O0 K O : List Nat} {w0 : World} {L : List Fact} {τ : Type} {r : Rp τ}

/-- A call whose body is walked in place: what follows is walked behind each return. -/
theorem WL_callI {f : FuncId} {fo : Operand} {al : List Operand} {ats : Array TypeId} {first cap vl : List Value} (he : Enters P f) (hd : d < n)
    (hfo : ev ρ fo = .func (.func f) first.toArray cap.toArray) (hargs : al.map (ev ρ) = vl)
    (hc : Calls P f (first ++ vl ++ cap).toArray w fun e w' => ∃ v, e = .returned v ∧ WL P n ops rest Q (upd ρ d v) w') :
    WL P n ops (⟨some d, .call { callee := .value fo, args := al.toArray, argTypes := ats }, ty, pos, after, none⟩ :: rest) Q ρ w := by
  intro a ha
  refine wpList_plain rfl fun K hK => ?_
  have hrun : (execOp (ev ρ) ⟨some d, .call { callee := .value fo, args := al.toArray, argTypes := ats }, ty, pos, after, none⟩).run P w = .ok (.enter f (first ++ vl ++ cap).toArray) w := by
    subst hargs
    simp [execOp, resolve, hfo, Deferred.ofValue, invoke]
    have := he (first ++ (al.map (ev ρ) ++ cap)).toArray w
    simpa using this
  rw [← ha.env, ev_envOf] at hrun
  unfold Oper.wp
  rw [hrun, Oper.upon_enter]
  refine hc.mono fun e w' ⟨v, hz, h⟩ => ?_
  subst hz
  exact hK _ _ (h _ (ha.put hd _))

/-- The same where several ways lead out of the callee: they meet in what Pre says. -/
theorem WL_callJ {f : FuncId} {fo : Operand} {al : List Operand} {ats : Array TypeId} {first cap vl : List Value} (S : Type) (Pre : S → Value → World → Prop) (he : Enters P f) (hd : d < n)
    (hfo : ev ρ fo = .func (.func f) first.toArray cap.toArray) (hargs : al.map (ev ρ) = vl)
    (hc : ∀ K : Value → World → Prop, (∀ s v w, Pre s v w → K v w) → Calls P f (first ++ vl ++ cap).toArray w fun e w' => ∃ v, e = .returned v ∧ K v w')
    (h : ∀ s v w', Pre s v w' → WL P n ops rest Q (upd ρ d v) w') :
    WL P n ops (⟨some d, .call { callee := .value fo, args := al.toArray, argTypes := ats }, ty, pos, after, none⟩ :: rest) Q ρ w :=
  WL_callI he hd hfo hargs (hc _ h)

theorem equal_succ (t : TypeId) (x y : Value) : Op.equal t x y = Op.equalIn (9999 + 1) t x y := rfl
theorem run_equal_ptr {e : TypeId} (ht : P.underlying t = some (.pointer e)) (o : Option Addr) : (Op.equal t (.pointer o) (.pointer none)).run P w = .ok o.isNone w := by
  rw [equal_succ]; generalize 9999 = m; unfold Op.equalIn; rw [Sem.run_bind, run_underlying ht]; cases o <;> simp
theorem run_equal_sl {e : TypeId} (ht : P.underlying t = some (.slice e)) (o : Option Addr) (l k : Nat) : (Op.equal t (.slice o l k) (.slice none 0 0)).run P w = .ok o.isNone w := by
  rw [equal_succ]; generalize 9999 = m; unfold Op.equalIn; rw [Sem.run_bind, run_underlying ht]; cases o <;> simp
theorem run_equal_fn {ps rs : Array TypeId} {vr : Bool} (ht : P.underlying t = some (.func ps rs vr)) {v : Value} {b : Bool} (hv : (v = .nilFunc ∧ b = true) ∨ (∃ a c e, v = .func a c e ∧ b = false)) : (Op.equal t v .nilFunc).run P w = .ok b w := by
  rw [equal_succ]; generalize 9999 = m; unfold Op.equalIn
  rcases hv with ⟨rfl, rfl⟩ | ⟨a, c, e, rfl, rfl⟩ <;> (rw [Sem.run_bind, run_underlying ht]; simp)
theorem WL_eql_of {vx vy : Value} {b : Bool} (hd : d < n) (hx : ev ρ x = vx) (hy : ev ρ y = vy) (hg : eqGuard .eql t x y vx vy = pure ()) (hb : binOp .eql t vx vy = (do pure (.bool (← Op.equal t vx vy)))) (he : (Op.equal t vx vy).run P w = .ok b w)
    (h : WL P n ops rest Q (upd ρ d (.bool b)) w) : WL P n ops (⟨some d, .binOp .eql t x y t', ty, pos, after, none⟩ :: rest) Q ρ w := by
  refine WL_value hd (fun dst ty pos after g => ?_) h
  show (do pure (Next.value (← (do eqGuard .eql t x y (ev ρ x) (ev ρ y); binOp .eql t (ev ρ x) (ev ρ y)))) : Sem Next).run P w = _
  rw [hx, hy, hg, hb]
  simp only [go_sem, he, Sem.run_bind, Sem.run_pure, Result.andThen_ok, pure_bind]
theorem WL_neq_of {vx vy : Value} {b : Bool} (hd : d < n) (hx : ev ρ x = vx) (hy : ev ρ y = vy) (hg : eqGuard .neq t x y vx vy = pure ()) (hb : binOp .neq t vx vy = (do pure (.bool (!(← Op.equal t vx vy))))) (he : (Op.equal t vx vy).run P w = .ok b w)
    (h : WL P n ops rest Q (upd ρ d (.bool (!b))) w) : WL P n ops (⟨some d, .binOp .neq t x y t', ty, pos, after, none⟩ :: rest) Q ρ w := by
  refine WL_value hd (fun dst ty pos after g => ?_) h
  show (do pure (Next.value (← (do eqGuard .neq t x y (ev ρ x) (ev ρ y); binOp .neq t (ev ρ x) (ev ρ y)))) : Sem Next).run P w = _
  rw [hx, hy, hg, hb]
  simp only [go_sem, he, Sem.run_bind, Sem.run_pure, Result.andThen_ok, pure_bind]
theorem WL_peqN {e : TypeId} {o : Option Addr} {b : Bool} (ht : P.underlying t = some (.pointer e)) (hb : o.isNone = b) (hd : d < n) (hx : ev ρ x = .pointer o) (hy : ev ρ y = .pointer none)
    (h : WL P n ops rest Q (upd ρ d (.bool b)) w) : WL P n ops (⟨some d, .binOp .eql t x y t', ty, pos, after, none⟩ :: rest) Q ρ w := by
  subst hb; exact WL_eql_of hd hx hy (by cases o <;> rfl) (by cases o <;> rfl) (run_equal_ptr ht o) h
theorem WL_pneN {e : TypeId} {o : Option Addr} {b : Bool} (ht : P.underlying t = some (.pointer e)) (hb : (!o.isNone) = b) (hd : d < n) (hx : ev ρ x = .pointer o) (hy : ev ρ y = .pointer none)
    (h : WL P n ops rest Q (upd ρ d (.bool b)) w) : WL P n ops (⟨some d, .binOp .neq t x y t', ty, pos, after, none⟩ :: rest) Q ρ w := by
  subst hb; exact WL_neq_of hd hx hy (by cases o <;> rfl) (by cases o <;> rfl) (run_equal_ptr ht o) h
theorem WL_slN {e : TypeId} {o : Option Addr} {l k : Nat} {b : Bool} (ht : P.underlying t = some (.slice e)) (hb : o.isNone = b) (hd : d < n) (hx : ev ρ x = .slice o l k) (hy : ev ρ y = .slice none 0 0)
    (h : WL P n ops rest Q (upd ρ d (.bool b)) w) : WL P n ops (⟨some d, .binOp .eql t x y t', ty, pos, after, none⟩ :: rest) Q ρ w := by
  subst hb; exact WL_eql_of hd hx hy (by cases o <;> rfl) (by cases o <;> rfl) (run_equal_sl ht o l k) h
theorem WL_slNe {e : TypeId} {o : Option Addr} {l k : Nat} {b : Bool} (ht : P.underlying t = some (.slice e)) (hb : (!o.isNone) = b) (hd : d < n) (hx : ev ρ x = .slice o l k) (hy : ev ρ y = .slice none 0 0)
    (h : WL P n ops rest Q (upd ρ d (.bool b)) w) : WL P n ops (⟨some d, .binOp .neq t x y t', ty, pos, after, none⟩ :: rest) Q ρ w := by
  subst hb; exact WL_neq_of hd hx hy (by cases o <;> rfl) (by cases o <;> rfl) (run_equal_sl ht o l k) h
theorem WL_ineg {k : IntKind} {a : Int} (hd : d < n) (hx : ev ρ x = .int k a) (h : WL P n ops rest Q (upd ρ d (.int k (IntKind.wrap k (0 - a)))) w) : WL P n ops (⟨some d, .unOp .neg t x, ty, pos, after, none⟩ :: rest) Q ρ w :=
  WL_value hd (by intros; simp [execOp, hx, Op.unary, Op.intArith]) h
theorem WL_makeFuncL {f : FuncId} {first cap : List Operand} {vf vc : List Value} (hd : d < n) (hf : first.map (ev ρ) = vf) (hc : cap.map (ev ρ) = vc)
    (h : WL P n ops rest Q (upd ρ d (.func (.func f) vf.toArray vc.toArray)) w) : WL P n ops (⟨some d, .makeFunc (.func f) first.toArray cap.toArray, ty, pos, after, none⟩ :: rest) Q ρ w := by
  subst hf; subst hc
  refine WL_makeFunc hd ?_
  simpa using h
theorem WL_indexBox {b off len sz i : Nat} {e : TypeId} {k : IntKind} (ht : P.underlying t = some (.array len e)) (hz : ∀ w, (sizeOf e).run P w = .ok (sz + 1) w) (hi : i < len) (hd : d < n)
    (hx : ev ρ x = .pointer (some ⟨b, off, none⟩)) (hy : ev ρ y = .int k (i : Int)) {off' : Nat} (ho : off + i * (sz + 1) = off') (h : WL P n ops rest Q (upd ρ d (.pointer (some ⟨b, off', none⟩))) w) :
    WL P n ops (⟨some d, .indexAddr t x y, ty, pos, after, none⟩ :: rest) Q ρ w := by
  subst ho
  refine WL_value hd (w' := w) ?_ h
  intros
  simp only [execOp, hx, hy, Sem.run_bind]
  rw [show (Instr.indexAt t (.pointer (some ⟨b, off, none⟩)) (.int k (i : Int))).run P w = .ok (.pointer (some ⟨b, off + i * (sz + 1), none⟩)) w from by
    simp [Instr.indexAt, Instr.sureAddr, asIntOf, run_underlying ht, hz, Addr.add_lit]
    intro h4; omega]
  rfl
theorem run_equal_same {e : TypeId} {sz : Nat} (ht : P.underlying t = some (.pointer e)) (hz : ∀ w, (sizeOf e).run P w = .ok (sz + 1) w) (a : Addr) : (Op.equal t (.pointer (some a)) (.pointer (some a))).run P w = .ok true w := by
  rw [equal_succ]; generalize 9999 = m; unfold Op.equalIn; rw [Sem.run_bind, run_underlying ht]; simp [hz, sameAddr]
theorem WL_pneS {e : TypeId} {sz : Nat} {a : Addr} (ht : P.underlying t = some (.pointer e)) (hz : ∀ w, (sizeOf e).run P w = .ok (sz + 1) w) (hd : d < n) (hx : ev ρ x = .pointer (some a)) (hy : ev ρ y = .pointer (some a))
    (h : WL P n ops rest Q (upd ρ d (.bool false)) w) : WL P n ops (⟨some d, .binOp .neq t x y t', ty, pos, after, none⟩ :: rest) Q ρ w :=
  WL_neq_of hd hx hy rfl rfl (run_equal_same ht hz a) h
theorem WL_peqS {e : TypeId} {sz : Nat} {a : Addr} (ht : P.underlying t = some (.pointer e)) (hz : ∀ w, (sizeOf e).run P w = .ok (sz + 1) w) (hd : d < n) (hx : ev ρ x = .pointer (some a)) (hy : ev ρ y = .pointer (some a))
    (h : WL P n ops rest Q (upd ρ d (.bool true)) w) : WL P n ops (⟨some d, .binOp .eql t x y t', ty, pos, after, none⟩ :: rest) Q ρ w :=
  WL_eql_of hd hx hy rfl rfl (run_equal_same ht hz a) h
theorem neBeq {a b : Int} (h : (a == b) = false) : a ≠ b := by simpa using h
theorem ofBeq {a b : Int} (h : (a == b) = true) : a = b := by simpa using h
theorem nonneg8 (x : UInt8) : 0 ≤ ((UInt8.toNat x : Nat) : Int) := Int.natCast_nonneg _
end
end Go.Gx
