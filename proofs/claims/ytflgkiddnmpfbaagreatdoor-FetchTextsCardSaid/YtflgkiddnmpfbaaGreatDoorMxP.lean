/- The machine M: regions whose order is drawn. -/
import Derived.Test.YtflgkiddnmpfbaaGreatDoorMxN
set_option linter.unusedVariables false
set_option linter.unusedSimpArgs false
namespace Go.Mx
open Go Go.Gx

mutual
def AV.beq : AV → AV → Bool
  | .bool a, y => match y with | .bool b => a == b | _ => false
  | .int k a, y => match y with | .int k' b => decide (k = k') && decide (a = b) | _ => false
  | .str a, y => match y with | .str b => a == b | _ => false
  | .nilp, y => match y with | .nilp => true | _ => false
  | .ptr l o v m, y => match y with | .ptr l' o' v' m' => Nat.beq l l' && Nat.beq o o' && Nat.beq v v' && Nat.beq m m' | _ => false
  | .nils, y => match y with | .nils => true | _ => false
  | .sl l o n z v c, y => match y with | .sl l' o' n' z' v' c' => Nat.beq l l' && Nat.beq o o' && Nat.beq n n' && Nat.beq z z' && Nat.beq v v' && c == c' | _ => false
  | .nilm, y => match y with | .nilm => true | _ => false
  | .map l, y => match y with | .map l' => Nat.beq l l' | _ => false
  | .nilf, y => match y with | .nilf => true | _ => false
  | .fn f a c, y => match y with | .fn f' a' c' => Nat.beq f f' && AV.beqL a a' && AV.beqL c c' | _ => false
  | .nili, y => match y with | .nili => true | _ => false
  | .ifc t v, y => match y with | .ifc t' v' => Nat.beq t t' && AV.beq v v' | _ => false
  | .opq, y => match y with | .opq => true | _ => false
  | .agg l, y => match y with | .agg l' => AV.beqL l l' | _ => false
  | .tup l, y => match y with | .tup l' => AV.beqL l l' | _ => false
  | .any, y => match y with | .any => true | _ => false
  | .iv a b, y => match y with | .iv a' b' => decide (a = a') && decide (b = b') | _ => false
  | .yld a, y => match y with | .yld a' => Nat.beq a a' | _ => false
def AV.beqL : List AV → List AV → Bool
  | [], y => match y with | [] => true | _ => false
  | x :: l, y => match y with | x' :: l' => AV.beq x x' && AV.beqL l l' | _ => false
end
mutual
theorem AV.beq_eq : ∀ (x y : AV), x.beq y = true → x = y
  | .bool a, y, h => by cases y <;> simp_all [AV.beq]
  | .int k a, y, h => by cases y <;> simp_all [AV.beq]
  | .str a, y, h => by cases y <;> simp_all [AV.beq]
  | .nilp, y, h => by cases y <;> simp_all [AV.beq]
  | .ptr l o v m, y, h => by cases y <;> simp_all [AV.beq]
  | .nils, y, h => by cases y <;> simp_all [AV.beq]
  | .sl l o n z v c, y, h => by cases y <;> simp_all [AV.beq]
  | .nilm, y, h => by cases y <;> simp_all [AV.beq]
  | .map l, y, h => by cases y <;> simp_all [AV.beq]
  | .nilf, y, h => by cases y <;> simp_all [AV.beq]
  | .fn f a c, y, h => by
    cases y with
    | fn f' a' c' =>
      simp only [AV.beq, Bool.and_eq_true] at h
      rw [Nat.eq_of_beq_eq_true h.1.1, AV.beqL_eq a a' h.1.2, AV.beqL_eq c c' h.2]
    | _ => simp [AV.beq] at h
  | .nili, y, h => by cases y <;> simp_all [AV.beq]
  | .ifc t v, y, h => by
    cases y with
    | ifc t' v' =>
      simp only [AV.beq, Bool.and_eq_true] at h
      rw [Nat.eq_of_beq_eq_true h.1, AV.beq_eq v v' h.2]
    | _ => simp [AV.beq] at h
  | .opq, y, h => by cases y <;> simp_all [AV.beq]
  | .agg l, y, h => by
    cases y with
    | agg l' => simp only [AV.beq] at h; rw [AV.beqL_eq l l' h]
    | _ => simp [AV.beq] at h
  | .tup l, y, h => by
    cases y with
    | tup l' => simp only [AV.beq] at h; rw [AV.beqL_eq l l' h]
    | _ => simp [AV.beq] at h
  | .any, y, h => by cases y <;> simp_all [AV.beq]
  | .iv a b, y, h => by cases y <;> simp_all [AV.beq]
  | .yld a, y, h => by cases y <;> simp_all [AV.beq]
theorem AV.beqL_eq : ∀ (x y : List AV), AV.beqL x y = true → x = y
  | [], y, h => by cases y <;> simp_all [AV.beqL]
  | x :: l, y, h => by
    cases y with
    | nil => simp [AV.beqL] at h
    | cons x' l' =>
      simp only [AV.beqL, Bool.and_eq_true] at h
      rw [AV.beq_eq x x' h.1, AV.beqL_eq l l' h.2]
end

/-! What an operation hangs on. -/
def bit (m k : Nat) : Bool := m.testBit k
def ebits (acc : List Nat) : List Edge → Nat
  | [] => 0
  | e :: l => match Region.binds .any e with
    | true => (1 <<< e.on) ||| (acc.getD e.on 0) ||| ebits acc l
    | false => ebits acc l
def infos : List Oper → List Nat → List (Option Nat × Nat)
  | [], _ => []
  | o :: l, acc => (o.dst, ebits acc o.after.toList) :: infos l (acc ++ [ebits acc o.after.toList])

inductive Rec where
  | off | hole (loc n : Nat) | quiet (v : AV) | act (v : AV) (h : Heap)
def Rec.val : Rec → AV
  | .off => .undef
  | .hole loc n => .ptr loc 0 0 n
  | .quiet v => v
  | .act v _ => v
def hAll (h : Heap) : List Rec → Heap
  | [] => h
  | .act _ h' :: l => hAll h' l
  | _ :: l => hAll h l
def actsIn (b : Nat) : Nat → List Rec → Bool
  | _, [] => true
  | k, .act _ _ :: l => bit b k && actsIn b (k + 1) l
  | k, _ :: l => actsIn b (k + 1) l
def nHoles : List Rec → Nat
  | [] => 0
  | .hole _ _ :: l => nHoles l + 1
  | _ :: l => nHoles l

/-- A register as operation i finds it: of an operation ahead of it, or the old one. -/
def lookT (i b t : Nat) (old : Option AV) : List (Option Nat × Nat) → Nat → List AV → Option AV
  | [], _, _ => old
  | (some d, m) :: I, k, vs => match Nat.beq d t with
    | true => match bit b k with
      | true => vs.head?
      | false => match bit m i with
        | true => old
        | false => none
    | false => lookT i b t old I (k + 1) vs.tail
  | (none, _) :: I, k, vs => lookT i b t old I (k + 1) vs.tail
def evD (P : Program) (I : List (Option Nat × Nat)) (env : Arr AV) (vs : List AV) (i b : Nat) (h : Heap) : Operand → Option AV
  | .tmp t => lookT i b t env[t]? I 0 vs
  | .const c => mev P Arr.nil h (.const c)
  | .global g => mev P Arr.nil h (.global g)
  | .func f => mev P Arr.nil h (.func f)
def wantD (ops : List Oper) (o : Oper) (b : Nat) (vs : List AV) : Option Bool :=
  match o.guard with
  | none => some true
  | some (g, x) => match bit b g, ops[g]?, vs[g]? with
    | true, some q, some v => match q.dst with
      | some _ => some (isB (some v) == some x)
      | none => some false
    | _, _, _ => none
inductive K3 where
  | hole (t : TypeId) | quiet | act
def kindOf (P : Program) : Op → K3
  | .alloc t => .hole t
  | .move _ | .assign _ | .pick .. | .build .. | .load .. | .nilCheck _ | .binOp .. | .unOp .. | .makeInterface .. | .makeFunc .. | .slice .. | .fieldAddr .. | .field .. | .indexAddr .. | .index .. | .lookup .. | .extract .. => .quiet
  | .convert _ d _ => match P.underlying d with
    | some (.slice _) => .act
    | _ => .quiet
  | .call c => match c.callee with
    | .builtin .len | .builtin .cap | .builtin .max | .builtin .min => .quiet
    | _ => .act
  | _ => .act
def mexD (P : Program) (call : Cal → List AV → Heap → Option CR) (e : Operand → Option AV) (h : Heap) (op : Op) : Option (AV × Heap) :=
  match mop P e h op with
  | some (.val v h') => some (v, h')
  | some (.unit h') => some (.undef, h')
  | some (.call f args) => match call f args h with
    | some (.ret v h') => some (v, h')
    | _ => none
  | some (.dfr ..) => none
  | none => none
def step1 (P : Program) (call : Cal → List AV → Heap → Option CR) (ops : List Oper) (I : List (Option Nat × Nat)) (env : Arr AV) (base : Nat) (h0 : Heap) (done : List Rec) (o : Oper) : Option Rec :=
  match I[done.length]? with
  | none => none
  | some (_, b) => match wantD ops o b (done.map Rec.val) with
    | none => none
    | some false => some .off
    | some true => match kindOf P o.op with
      | .hole t => match zeroOf P t with
        | some z => some (.hole (base + nHoles done) z.cells.length)
        | none => none
      | .quiet => match mop P (evD P I env (done.map Rec.val) done.length b (hAll h0 done)) (hAll h0 done) o.op with
        | some (.val v _) => some (.quiet v)
        | _ => none
      | .act => match actsIn b 0 done with
        | true => match mexD P call (evD P I env (done.map Rec.val) done.length b (hAll h0 done)) (hAll h0 done) o.op with
          | some (v, h') => some (.act v h')
          | none => none
        | false => none
def steps (P : Program) (call : Cal → List AV → Heap → Option CR) (ops : List Oper) (I : List (Option Nat × Nat)) (env : Arr AV) (base : Nat) (h0 : Heap) : List Oper → List Rec → Option (List Rec)
  | [], done => some done
  | o :: l, done => match step1 P call ops I env base h0 done o with
    | some r => steps P call ops I env base h0 l (done ++ [r])
    | none => none
/-- At every place where operation i may come up. -/
def goQ (cond : Heap → Bool) (i b : Nat) : List Rec → List (Option Nat × Nat) → Nat → Heap → Bool
  | .act _ h' :: l, (_, m) :: I, k, cur => match bit b k with
    | true => goQ cond i b l I (k + 1) h'
    | false => match bit m i with
      | true => cond cur
      | false => cond cur && goQ cond i b l I (k + 1) h'
  | _ :: l, _ :: I, k, cur => goQ cond i b l I (k + 1) cur
  | _, _, _, cur => cond cur
def condQ (P : Program) (I : List (Option Nat × Nat)) (env : Arr AV) (vs : List AV) (i b : Nat) (o : Oper) (v : AV) (h : Heap) : Bool :=
  match mop P (evD P I env vs i b h) h o.op with
  | some (.val v' _) => v'.beq v
  | _ => false
def condH (P : Program) (t loc : Nat) (h : Heap) : Bool :=
  match zeroOf P t, h[loc]? with
  | some z, some (.row cells 0 0 0 false (some t')) => Nat.beq t' t && AV.beqL cells z.cells
  | _, _ => false
def chk1 (P : Program) (I : List (Option Nat × Nat)) (env : Arr AV) (vs : List AV) (h0 : Heap) (recs : List Rec) (i b : Nat) (o : Oper) : Rec → Bool
  | .quiet v => goQ (condQ P I env vs i b o v) i b recs I 0 h0
  | .hole loc _ => match o.op with
    | .alloc t => Nat.blt loc h0.length && goQ (condH P t loc) i b recs I 0 h0
    | _ => false
  | _ => true
def chks (P : Program) (I : List (Option Nat × Nat)) (env : Arr AV) (vs : List AV) (h0 : Heap) (recs : List Rec) : List Oper → List (Option Nat × Nat) → List Rec → Nat → Bool
  | o :: l, (_, b) :: I', r :: rs, i => chk1 P I env vs h0 recs i b o r && chks P I env vs h0 recs l I' rs (i + 1)
  | [], _, _, _ => true
  | _, _, _, _ => false
def notDst (d : Nat) : List (Option Nat × Nat) → Bool
  | [] => true
  | (some d', _) :: I => !Nat.beq d' d && notDst d I
  | (none, _) :: I => notDst d I
def dstOk : List (Option Nat × Nat) → Bool
  | [] => true
  | (some d, _) :: I => notDst d I && dstOk I
  | (none, _) :: I => dstOk I
def holesOf (P : Program) : List Oper → Option (List Blk)
  | [] => some []
  | o :: l => match o.op, holesOf P l with
    | .alloc t, some bs => match zeroOf P t with
      | some z => some (.row z.cells 0 0 0 false (some t) :: bs)
      | none => none
    | _, r => r
def finE : List (Option Nat × Nat) → List Rec → Arr AV → Option (Arr AV)
  | (d, _) :: I, r :: rs, env => match setT env d r.val with
    | some env' => finE I rs env'
    | none => none
  | _, _, env => some env
def mdrawn2 (P : Program) (call : Cal → List AV → Heap → Option CR) (ops : List Oper) (I : List (Option Nat × Nat)) (env : Arr AV) (base : Nat) (h0 : Heap) (mk : List Dfd) : Option OR :=
  match steps P call ops I env base h0 ops [] with
  | none => none
  | some recs => match chks P I env (recs.map Rec.val) h0 recs ops I recs 0 with
    | true => setO (hAll h0 recs) mk (finE I recs env)
    | false => none
def mdrawn (P : Program) (call : Cal → List AV → Heap → Option CR) (ops : List Oper) (env : Arr AV) (h : Heap) (mk : List Dfd) : Option OR :=
  match backOk ops && dstOk (infos ops []), holesOf P ops with
  | true, some hs => mdrawn2 P call ops (infos ops []) env h.length (h ++ hs) mk
  | _, _ => none

/-! Soundness. -/
def Closed (l : List Oper) (S : Nat → Bool) : Prop := ∀ (k : Nat) (o : Oper), S k = true → l[k]? = some o → ∀ e ∈ o.after, Region.binds .any e = true → S e.on = true
def Before (l : List Oper) (k m : Nat) : Prop := ∀ o, l[k]? = some o → ∀ S, Closed l S → (∀ e ∈ o.after, Region.binds .any e = true → S e.on = true) → ∀ j, bit m j = true → S j = true

theorem ebits_spec {acc : List Nat} {j : Nat} : ∀ {es : List Edge}, bit (ebits acc es) j = true → ∃ e ∈ es, Region.binds .any e = true ∧ (j = e.on ∨ bit (acc.getD e.on 0) j = true)
  | [], h => by simp [ebits, bit] at h
  | e :: l, h => by
    unfold ebits at h
    cases hb : Region.binds .any e with
    | true =>
      rw [hb] at h
      simp only [bit, Nat.testBit_or, Bool.or_eq_true] at h
      rcases h with (h | h) | h
      · rw [Nat.one_shiftLeft, Nat.testBit_two_pow] at h
        exact ⟨e, List.mem_cons_self, hb, .inl (by simpa using (of_decide_eq_true h).symm)⟩
      · exact ⟨e, List.mem_cons_self, hb, .inr h⟩
      · obtain ⟨e', h1, h2⟩ := ebits_spec (es := l) h
        exact ⟨e', List.mem_cons_of_mem _ h1, h2⟩
    | false =>
      rw [hb] at h
      obtain ⟨e', h1, h2⟩ := ebits_spec (es := l) h
      exact ⟨e', List.mem_cons_of_mem _ h1, h2⟩
theorem infos_length : ∀ (l : List Oper) (acc : List Nat), (infos l acc).length = l.length
  | [], _ => rfl
  | o :: l, acc => by simp [infos, infos_length l]
theorem infos_dst : ∀ {l : List Oper} {acc : List Nat} {k : Nat} {d : Option Nat} {m : Nat}, (infos l acc)[k]? = some (d, m) → ∃ o, l[k]? = some o ∧ o.dst = d
  | [], acc, k, d, m, h => by simp [infos] at h
  | o :: l, acc, 0, d, m, h => by
    simp only [infos, List.getElem?_cons_zero, Option.some.injEq, Prod.mk.injEq] at h
    exact ⟨o, rfl, h.1⟩
  | o :: l, acc, k + 1, d, m, h => by
    simp only [infos, List.getElem?_cons_succ] at h
    obtain ⟨o', h1, h2⟩ := infos_dst h
    exact ⟨o', by simpa using h1, h2⟩
theorem infos_before {l0 : List Oper} : ∀ {l : List Oper} {acc : List Nat}, l0.drop acc.length = l → (∀ k m, acc[k]? = some m → Before l0 k m) → ∀ k d m, (infos l acc)[k]? = some (d, m) → Before l0 (acc.length + k) m
  | [], acc, hd, ha, k, d, m, h => by simp [infos] at h
  | o :: l, acc, hd, ha, k, d, m, h => by
    have hlt : acc.length < l0.length := by
      rcases Nat.lt_or_ge acc.length l0.length with h1 | h1
      · exact h1
      · rw [List.drop_eq_nil_of_le h1] at hd; cases hd
    have hcons := List.drop_eq_getElem_cons hlt
    rw [hd] at hcons
    obtain ⟨ho, hl⟩ := List.cons.inj hcons
    have hoo : l0[acc.length]? = some o := by rw [List.getElem?_eq_getElem hlt, ← ho]
    have hB : Before l0 acc.length (ebits acc o.after.toList) := by
      intro o' ho' S hS he j hj
      rw [hoo] at ho'; cases ho'
      obtain ⟨e, h1, h2, h3⟩ := ebits_spec hj
      have hSe := he e (by simpa using h1) h2
      rcases h3 with rfl | h3
      · exact hSe
      · rw [List.getD_eq_getElem?_getD] at h3
        cases hq : acc[e.on]? with
        | none => rw [hq] at h3; simp [bit] at h3
        | some mm =>
          rw [hq] at h3
          have hlt2 := (List.getElem?_eq_some_iff.1 hq).1
          have ho2 : l0[e.on]? = some l0[e.on] := List.getElem?_eq_getElem (by omega)
          exact ha _ _ hq _ ho2 S hS (fun e' he' hb' => hS _ _ hSe ho2 e' he' hb') j h3
    cases k with
    | zero =>
      simp only [infos, List.getElem?_cons_zero, Option.some.injEq, Prod.mk.injEq] at h
      rw [← h.2]; exact hB
    | succ k =>
      simp only [infos, List.getElem?_cons_succ] at h
      have := infos_before (l0 := l0) (acc := acc ++ [ebits acc o.after.toList]) (by rw [List.length_append]; exact hl.symm) (fun k' m' hk' => by
        rcases Nat.lt_or_ge k' acc.length with h1 | h1
        · rw [List.getElem?_append_left h1] at hk'; exact ha _ _ hk'
        · rw [List.getElem?_append_right h1] at hk'
          have h0 : k' - acc.length = 0 := by
            rcases Nat.eq_zero_or_pos (k' - acc.length) with h2 | h2
            · exact h2
            · rw [List.getElem?_eq_none (by simp; omega)] at hk'; cases hk'
          rw [h0] at hk'
          simp at hk'
          rw [← hk', show k' = acc.length by omega]; exact hB) k d m h
      rw [List.length_append] at this
      simpa [Nat.add_assoc, Nat.add_comm 1 k] using this

theorem notDst_spec {d : Nat} : ∀ {I : List (Option Nat × Nat)}, notDst d I = true → ∀ (k m : Nat), I[k]? ≠ some (some d, m)
  | [], h, k, m => by simp
  | (some d', m') :: I, h, k, m => by
    simp only [notDst, Bool.and_eq_true, Bool.not_eq_true'] at h
    cases k with
    | zero => intro e; simp at e; have := h.1; simp [e.1] at this
    | succ k => simpa using notDst_spec h.2 k m
  | (none, m') :: I, h, k, m => by
    cases k with
    | zero => simp
    | succ k => simpa using notDst_spec (I := I) h k m
theorem dstOk_spec : ∀ {I : List (Option Nat × Nat)}, dstOk I = true → ∀ (k k' d m m' : Nat), I[k]? = some (some d, m) → I[k']? = some (some d, m') → k = k'
  | [], h, k, k', d, m, m', h1, h2 => by simp at h1
  | (some d0, m0) :: I, h, k, k', d, m, m', h1, h2 => by
    simp only [dstOk, Bool.and_eq_true] at h
    cases k with
    | zero =>
      cases k' with
      | zero => rfl
      | succ k' => simp at h1 h2; rw [h1.1] at h; exact absurd h2 (notDst_spec h.1 _ _)
    | succ k =>
      cases k' with
      | zero => simp at h1 h2; rw [h2.1] at h; exact absurd h1 (notDst_spec h.1 _ _)
      | succ k' => simp at h1 h2; rw [dstOk_spec h.2 _ _ _ _ _ h1 h2]
  | (none, m0) :: I, h, k, k', d, m, m', h1, h2 => by
    cases k with
    | zero => simp at h1
    | succ k =>
      cases k' with
      | zero => simp at h2
      | succ k' => simp at h1 h2; rw [dstOk_spec (I := I) h _ _ _ _ _ h1 h2]

theorem lookT_spec {i b t : Nat} {old : Option AV} {v : AV} : ∀ {I : List (Option Nat × Nat)} {k : Nat} {vs : List AV}, lookT i b t old I k vs = some v →
    (∃ j m : Nat, I[j]? = some (some t, m) ∧ bit b (k + j) = true ∧ vs[j]? = some v) ∨ (∃ j m : Nat, I[j]? = some (some t, m) ∧ bit m i = true ∧ old = some v) ∨ ((∀ j m : Nat, I[j]? ≠ some (some t, m)) ∧ old = some v)
  | [], k, vs, h => .inr (.inr ⟨by simp, h⟩)
  | (some d, m) :: I, k, vs, h => by
    unfold lookT at h
    cases hd : Nat.beq d t with
    | true =>
      rw [hd] at h
      have := Nat.eq_of_beq_eq_true hd
      subst this
      cases hb : bit b k with
      | true =>
        rw [hb] at h
        refine .inl ⟨0, m, rfl, hb, ?_⟩
        cases vs <;> simp_all
      | false =>
        rw [hb] at h
        cases hm : bit m i with
        | true => rw [hm] at h; exact .inr (.inl ⟨0, m, rfl, hm, h⟩)
        | false => rw [hm] at h; cases h
    | false =>
      rw [hd] at h
      have hne : d ≠ t := fun e => by subst e; simp at hd
      rcases lookT_spec (I := I) h with ⟨j, m', h1, h2, h3⟩ | ⟨j, m', h1, h2⟩ | ⟨h1, h2⟩
      · exact .inl ⟨j + 1, m', by simpa using h1, by rw [← h2]; congr 1; omega, by cases vs <;> simp_all⟩
      · exact .inr (.inl ⟨j + 1, m', by simpa using h1, h2⟩)
      · refine .inr (.inr ⟨fun j m' => ?_, h2⟩)
        cases j with
        | zero => simp; intro e; exact absurd e hne
        | succ j => simpa using h1 j m'
  | (none, m) :: I, k, vs, h => by
    unfold lookT at h
    rcases lookT_spec (I := I) h with ⟨j, m', h1, h2, h3⟩ | ⟨j, m', h1, h2⟩ | ⟨h1, h2⟩
    · exact .inl ⟨j + 1, m', by simpa using h1, by rw [← h2]; congr 1; omega, by cases vs <;> simp_all⟩
    · exact .inr (.inl ⟨j + 1, m', by simpa using h1, h2⟩)
    · refine .inr (.inr ⟨fun j m' => ?_, h2⟩)
      cases j with
      | zero => simp
      | succ j => simpa using h1 j m'

theorem steps_spec {P : Program} {call : Cal → List AV → Heap → Option CR} {ops : List Oper} {I : List (Option Nat × Nat)} {env : Arr AV} {base : Nat} {h0 : Heap} {recs : List Rec} : ∀ {l : List Oper} {done : List Rec}, steps P call ops I env base h0 l done = some recs →
    recs.length = done.length + l.length ∧ recs.take done.length = done ∧ ∀ i o, l[i]? = some o → ∃ r, recs[done.length + i]? = some r ∧ step1 P call ops I env base h0 (recs.take (done.length + i)) o = some r
  | [], done, h => by cases h; simp
  | o :: l, done, h => by
    unfold steps at h
    cases hs : step1 P call ops I env base h0 done o with
    | none => rw [hs] at h; cases h
    | some r =>
      rw [hs] at h
      obtain ⟨h1, h2, h3⟩ := steps_spec h
      simp only [List.length_append, List.length_cons, List.length_nil] at h1 h2 h3
      have ht : recs.take done.length = done := by
        have := congrArg (List.take done.length) h2
        rw [List.take_take, List.take_append_of_le_length (Nat.le_refl _), List.take_length] at this
        rwa [Nat.min_eq_left (by omega)] at this
      refine ⟨by simp only [List.length_cons]; omega, ht, fun i o' hi => ?_⟩
      cases i with
      | zero =>
        simp at hi; subst hi
        refine ⟨r, ?_, by rw [Nat.add_zero, ht]; exact hs⟩
        have : (recs.take (done.length + 1))[done.length]? = some r := by rw [h2]; simp
        rw [List.getElem?_take_of_lt (by omega)] at this
        exact this
      | succ i =>
        simp only [List.getElem?_cons_succ] at hi
        have := h3 i o' hi
        rwa [show done.length + 1 + i = done.length + (i + 1) by omega] at this

/-- The heap when the operations of S are done. -/
def hAt (S : Nat → Bool) (h : Heap) : Nat → List Rec → Heap
  | _, [] => h
  | k, .act _ h' :: l => hAt S (if S k then h' else h) (k + 1) l
  | k, _ :: l => hAt S h (k + 1) l
def isAct : Rec → Bool
  | .act _ _ => true
  | _ => false
theorem hAt_quiet {S : Nat → Bool} {h : Heap} {k : Nat} {r : Rec} {l : List Rec} (hr : isAct r = false) : hAt S h k (r :: l) = hAt S h (k + 1) l := by cases r <;> first | rfl | cases hr
theorem hAll_quiet {h : Heap} {r : Rec} {l : List Rec} (hr : isAct r = false) : hAll h (r :: l) = hAll h l := by cases r <;> first | rfl | cases hr
theorem hAt_none {S : Nat → Bool} : ∀ {l : List Rec} {h : Heap} {k : Nat}, (∀ j r, l[j]? = some r → isAct r = true → S (k + j) = false) → hAt S h k l = h
  | [], h, k, _ => rfl
  | r :: l, h, k, hn => by
    have ih : ∀ h, hAt S h (k + 1) l = h := fun h => hAt_none fun j r hj ha => by have := hn (j + 1) r (by simpa using hj) ha; rwa [show k + 1 + j = k + (j + 1) by omega]
    cases hr : isAct r with
    | false => rw [hAt_quiet hr]; exact ih h
    | true =>
      cases r with
      | act v h' =>
        have := hn 0 _ rfl rfl
        rw [Nat.add_zero] at this
        simp only [hAt, this]
        exact ih h
      | _ => cases hr
theorem hAt_all {S : Nat → Bool} : ∀ {l : List Rec} {h : Heap} {k : Nat}, (∀ j r, l[j]? = some r → isAct r = true → S (k + j) = true) → hAt S h k l = hAll h l
  | [], h, k, _ => rfl
  | r :: l, h, k, hn => by
    have ih : ∀ h, hAt S h (k + 1) l = hAll h l := fun h => hAt_all fun j r hj ha => by have := hn (j + 1) r (by simpa using hj) ha; rwa [show k + 1 + j = k + (j + 1) by omega]
    cases hr : isAct r with
    | false => rw [hAt_quiet hr, hAll_quiet hr]; exact ih h
    | true =>
      cases r with
      | act v h' =>
        have := hn 0 _ rfl rfl
        rw [Nat.add_zero] at this
        simp only [hAt, this, hAll]
        exact ih h'
      | _ => cases hr
theorem hAt_append {S : Nat → Bool} : ∀ {l1 l2 : List Rec} {h : Heap} {k : Nat}, hAt S h k (l1 ++ l2) = hAt S (hAt S h k l1) (k + l1.length) l2
  | [], l2, h, k => rfl
  | r :: l1, l2, h, k => by
    have e : k + 1 + l1.length = k + (l1.length + 1) := by omega
    cases hr : isAct r with
    | false => rw [List.cons_append, hAt_quiet hr, hAt_quiet hr, hAt_append, List.length_cons, e]
    | true =>
      cases r with
      | act v h' => simp only [List.cons_append, hAt, List.length_cons]; rw [hAt_append, e]
      | _ => cases hr
theorem hAt_congr {S S' : Nat → Bool} : ∀ {l : List Rec} {h : Heap} {k : Nat}, (∀ j r, l[j]? = some r → isAct r = true → S (k + j) = S' (k + j)) → hAt S h k l = hAt S' h k l
  | [], h, k, _ => rfl
  | r :: l, h, k, hn => by
    have ih : ∀ h, hAt S h (k + 1) l = hAt S' h (k + 1) l := fun h => hAt_congr fun j r hj ha => by have := hn (j + 1) r (by simpa using hj) ha; rwa [show k + 1 + j = k + (j + 1) by omega]
    cases hr : isAct r with
    | false => rw [hAt_quiet hr, hAt_quiet hr]; exact ih h
    | true =>
      cases r with
      | act v h' =>
        have := hn 0 _ rfl rfl
        rw [Nat.add_zero] at this
        simp only [hAt, this]
        exact ih _
      | _ => cases hr

theorem actsIn_spec {b : Nat} : ∀ {l : List Rec} {k : Nat}, actsIn b k l = true → ∀ j r, l[j]? = some r → isAct r = true → bit b (k + j) = true
  | [], k, h, j, r, hj, ha => by simp at hj
  | r0 :: l, k, h, j, r, hj, ha => by
    have hrest : actsIn b (k + 1) l = true := by
      cases r0 <;> first | exact h | (simp only [actsIn, Bool.and_eq_true] at h; exact h.2)
    cases j with
    | zero =>
      simp at hj; subst hj
      cases r0 <;> first | (simp only [actsIn, Bool.and_eq_true] at h; rw [Nat.add_zero]; exact h.1) | cases ha
    | succ j =>
      have := actsIn_spec hrest j r (by simpa using hj) ha
      rwa [show k + 1 + j = k + (j + 1) by omega] at this

theorem goQ_sound {cond : Heap → Bool} {i b : Nat} {S : Nat → Bool} (hB : ∀ j, bit b j = true → S j = true) : ∀ {l : List Rec} {I : List (Option Nat × Nat)} {k : Nat} {cur : Heap}, I.length = l.length →
    (∀ (j : Nat) (d : Option Nat) (m : Nat), I[j]? = some (d, m) → bit m i = true → S (k + j) = false) →
    (∀ j j' r r', j < j' → l[j]? = some r → isAct r = true → l[j']? = some r' → isAct r' = true → S (k + j') = true → S (k + j) = true) →
    goQ cond i b l I k cur = true → cond (hAt S cur k l) = true
  | [], I, k, cur, hl, hI, hP, h => by
    cases I <;> exact h
  | r :: l, [], k, cur, hl, hI, hP, h => by simp at hl
  | r :: l, (d, m) :: I, k, cur, hl, hI, hP, h => by
    have ih : ∀ {cur}, goQ cond i b l I (k + 1) cur = true → cond (hAt S cur (k + 1) l) = true := fun {cur} => goQ_sound hB (by simpa using hl)
      (fun j d m hj hb => by have := hI (j + 1) d m (by simpa using hj) hb; rwa [show k + 1 + j = k + (j + 1) by omega])
      (fun j j' r r' hlt hj ha hj' ha' hS => by
        have := hP (j + 1) (j' + 1) r r' (by omega) (by simpa using hj) ha (by simpa using hj') ha' (by rwa [show k + (j' + 1) = k + 1 + j' by omega])
        rwa [show k + 1 + j = k + (j + 1) by omega])
    cases hr : isAct r with
    | false =>
      rw [hAt_quiet hr]
      refine ih ?_
      cases r <;> first | exact h | cases hr
    | true =>
      cases r with
      | act v h' =>
        have hstop : S k = false → hAt S cur k (.act v h' :: l) = cur := fun hk => by
          refine hAt_none fun j r' hj ha => ?_
          cases j with
          | zero => rw [Nat.add_zero]; exact hk
          | succ j =>
            cases hS : S (k + (j + 1)) with
            | false => rfl
            | true =>
              have := hP 0 (j + 1) _ r' (by omega) rfl rfl hj ha hS
              rw [Nat.add_zero, hk] at this; cases this
        have hgo : S k = true → hAt S cur k (.act v h' :: l) = hAt S h' (k + 1) l := fun hk => by simp [hAt, hk]
        unfold goQ at h
        cases hb : bit b k with
        | true =>
          rw [hb] at h
          rw [hgo (hB k hb)]
          exact ih h
        | false =>
          rw [hb] at h
          cases hm : bit m i with
          | true =>
            rw [hm] at h
            rw [hstop (by have := hI 0 d m rfl hm; rwa [Nat.add_zero] at this)]
            exact h
          | false =>
            rw [hm] at h
            simp only [Bool.and_eq_true] at h
            cases hk : S k with
            | true => rw [hgo hk]; exact ih h.2
            | false => rw [hstop hk]; exact h.1
      | _ => cases hr

theorem chks_spec {P : Program} {I : List (Option Nat × Nat)} {env : Arr AV} {vs : List AV} {h0 : Heap} {recs : List Rec} : ∀ {l : List Oper} {I' : List (Option Nat × Nat)} {rs : List Rec} {i : Nat}, chks P I env vs h0 recs l I' rs i = true →
    ∀ (j : Nat) (o : Oper) (d : Option Nat) (b : Nat) (r : Rec), l[j]? = some o → I'[j]? = some (d, b) → rs[j]? = some r → chk1 P I env vs h0 recs (i + j) b o r = true
  | [], _, _, _, _, j, o, d, b, r, h1, _, _ => by simp at h1
  | o :: l, [], _, _, h, j, o', d, b, r, h1, h2, _ => by simp at h2
  | o :: l, (_, _) :: _, [], _, h, j, o', d, b, r, h1, h2, h3 => by simp at h3
  | o :: l, (d0, b0) :: I', r0 :: rs, i, h, j, o', d, b, r, h1, h2, h3 => by
    simp only [chks, Bool.and_eq_true] at h
    cases j with
    | zero => simp at h1 h2 h3; subst h1; subst h3; rw [← h2.2]; exact h.1
    | succ j =>
      have := chks_spec h.2 j o' d b r (by simpa using h1) (by simpa using h2) (by simpa using h3)
      rwa [show i + 1 + j = i + (j + 1) by omega] at this

theorem finE_spec : ∀ {I : List (Option Nat × Nat)} {recs : List Rec} {env env' : Arr AV}, I.length = recs.length → finE I recs env = some env' →
    env'.length = env.length ∧ (∀ (k d m : Nat), I[k]? = some (some d, m) → d < env.length) ∧
    ∀ (t : Nat) (x : AV), env'[t]? = some x → (∃ (k m : Nat) (r : Rec), I[k]? = some (some t, m) ∧ recs[k]? = some r ∧ x = r.val) ∨ ((∀ (k m : Nat), I[k]? ≠ some (some t, m)) ∧ env[t]? = some x)
  | [], recs, env, env', hl, h => by
    have : env' = env := by cases recs <;> simp [finE] at h <;> exact h.symm
    subst this
    exact ⟨rfl, by simp, fun t x hx => .inr ⟨by simp, hx⟩⟩
  | (d, m) :: I, [], env, env', hl, h => by simp at hl
  | (d, m) :: I, r :: rs, env, env', hl, h => by
    unfold finE at h
    cases hs : setT env d r.val with
    | none => rw [hs] at h; cases h
    | some env1 =>
      rw [hs] at h
      obtain ⟨h1, h2, h3⟩ := finE_spec (by simpa using hl) h
      have hset : env1.length = env.length ∧ (∀ d', d = some d' → d' < env.length) ∧ ∀ t x, env1[t]? = some x → (d = some t ∧ x = r.val) ∨ (d ≠ some t ∧ env[t]? = some x) := by
        cases d with
        | none => cases hs; exact ⟨rfl, fun _ e => (by cases e), fun t x hx => .inr ⟨(fun e => by cases e), hx⟩⟩
        | some d =>
          simp only [setT] at hs
          split at hs
          · rename_i hlt
            cases hs
            refine ⟨Arr.length_set, fun d' e => by cases e; exact hlt, fun t x hx => ?_⟩
            rw [Arr.get_set] at hx
            split at hx
            · rename_i e; subst e; cases hx; exact .inl ⟨rfl, rfl⟩
            · rename_i e; exact .inr ⟨fun q => e (Option.some.inj q), hx⟩
          · cases hs
      refine ⟨h1.trans hset.1, fun k d' m' hk => ?_, fun t x hx => ?_⟩
      · cases k with
        | zero => simp at hk; exact hset.2.1 d' hk.1
        | succ k => rw [← hset.1]; exact h2 k d' m' (by simpa using hk)
      · rcases h3 t x hx with ⟨k, m', r', e1, e2, e3⟩ | ⟨e1, e2⟩
        · exact .inl ⟨k + 1, m', r', by simpa using e1, by simpa using e2, e3⟩
        · rcases hset.2.2 t x e2 with ⟨f1, f2⟩ | ⟨f1, f2⟩
          · exact .inl ⟨0, m, r, by simp [f1], rfl, f2⟩
          · refine .inr ⟨fun k m' => ?_, f2⟩
            cases k with
            | zero => simp; intro e; exact absurd e f1
            | succ k => simpa using e1 k m'

theorem rv_heap {h h' : Heap} {o : Option AV} {v : AV} (hm : rv h o = some (.val v h')) : h' = h := by
  obtain ⟨y, _, e⟩ := rv_some hm
  cases e; rfl
theorem conv_heap {P : Program} {s d : TypeId} {x y : AV} {h h' : Heap} (hd : ∀ e, P.underlying d ≠ some (.slice e)) (hm : mconv P s d x h = some (y, h')) : h' = h := by
  unfold mconv at hm
  repeat' split at hm
  all_goals first
    | (exact absurd (by assumption) (hd _))
    | (cases hm; rfl)
    | (cases hm; done)
theorem kind_quiet {P : Program} {e : Operand → Option AV} {h h' : Heap} {op : Op} {v : AV} (hk : kindOf P op = .quiet) (hm : mop P e h op = some (.val v h')) : h' = h := by
  cases op <;> first | (cases hk; done) | skip
  case call c =>
    obtain ⟨cal, args, ats⟩ := c
    cases cal with
    | builtin b =>
      cases b <;> first | (cases hk; done) | skip
      all_goals
        simp only [mop, mbuiltin] at hm
        repeat' split at hm
        all_goals first
          | exact rv_heap hm
          | (cases hm; rfl)
          | (cases hm; done)
          | (exfalso; simp_all; done)
    | _ => cases hk
  case convert s d x =>
    have hd : ∀ e, P.underlying d ≠ some (.slice e) := by
      intro e he
      simp only [kindOf, he] at hk
      cases hk
    simp only [mop] at hm
    split at hm
    · obtain ⟨y, h2, h3, h4⟩ := rvh_some hm
      cases h4
      exact conv_heap hd h3
    · cases hm
  all_goals simp only [mop] at hm
  all_goals repeat' split at hm
  all_goals first
    | exact rv_heap hm
    | (cases hm; rfl)
    | (cases hm; done)
    | (exfalso; simp_all; done)

section
variable {P : Program} {B : Nat} {W0 : World} {Q : Exit → Act → World → Prop} {bb : Option Nat}

theorem mexD_sound {call : Cal → List AV → Heap → Option CR} (hcall : CallOK P B W0 call) {G : Gh} {e : Operand → Option AV} {h h' : Heap} {v : AV} {a : Act} {w : World} {o : Oper} (hev : ∀ x v, e x = some v → V G v (a.eval x)) (hr : HR G B h w) (hg : Glob P B W0 G w)
    (hx : mexD P call e h o.op = some (v, h')) {K : Act → World → Prop} (hok : ∀ u w' G', Step G G' B h' w w' → V G' v u → K (a.put o.dst u) w') : o.wpIn (fen bb) 0 P a w K Q := by
  obtain ⟨dst, op, ty, pos, after, guard⟩ := o
  unfold Oper.wpIn
  refine ⟨fun f _ => fen_fn bb f, ?_⟩
  unfold mexD at hx
  rw [Oper.semAt_eq _ _ _ (fun c hc => by
    simp only at hc
    subst hc
    have : ∀ q, mop P e h (.defer c) = some q → ∃ f as cap, q = .dfr f as cap := by
      intro q hq
      simp only [mop] at hq
      split at hq
      · split at hq
        · cases hq; exact ⟨_, _, _, rfl⟩
        · cases hq
      · cases hq
    split at hx
    · rename_i hq; obtain ⟨_, _, _, e⟩ := this _ hq; cases e
    · rename_i hq; obtain ⟨_, _, _, e⟩ := this _ hq; cases e
    · rename_i hq; obtain ⟨_, _, _, e⟩ := this _ hq; cases e
    · cases hx
    · cases hx)]
  split at hx
  · rename_i v0 h0 hq
    cases hx
    obtain ⟨w', u, G', hrun, hS, hV⟩ := mop_sound hr hev hq
    rw [hrun, Oper.uponIn_value]
    exact hok _ _ _ hS hV
  · rename_i h0 hq
    cases hx
    obtain ⟨w', G', hrun, hS⟩ := mop_sound hr hev hq
    rw [hrun, Oper.uponIn_skip]
    exact hok _ _ _ hS (.tup .nil)
  · rename_i f args hq
    split at hx
    · rename_i v0 h0 hc
      cases hx
      have hms := mop_sound hr hev hq
      cases f with
      | f f =>
        obtain ⟨us, hV, hrun⟩ := hms
        rcases hcall (.f f) args h _ hc G us w hV hr hg with ⟨hC, hE⟩ | ⟨v1, h1, u, w', G', hq1, hv, hS, hV'⟩
        · rw [hrun, hE, Oper.uponIn_enter]
          refine ⟨(fun e => by rw [fen_depth] at e; cases e), fen_callsIn (hC.mono fun e w' hcr => ?_)⟩
          obtain ⟨G', hS, u, hv, rfl⟩ := hcr
          exact hok _ _ _ hS hv
        · cases hq1
          rw [hrun, hv, Oper.uponIn_value]
          exact hok _ _ _ hS hV'
      | y loc =>
        obtain ⟨us, rv, hV, hat, hrun⟩ := hms
        obtain ⟨L, h1, h2, h3⟩ := hcall (.y loc) args h _ hc G us w rv hV hr hg hat
        rw [hrun, run_yield h1 (by simpa using h2), Oper.uponIn_round]
        refine ⟨(fun e => by rw [fen_depth] at e; cases e), fen_roundIn (h3.mono fun e w' hcr => ?_)⟩
        obtain ⟨G', hS, u, hv, rfl⟩ := hcr
        exact hok _ _ _ hS hv
    · cases hx
  · cases hx
  · cases hx

/-- All orders, by what holds of the operations that are done. -/
theorem drawn_any {l : List Oper} (hb : backOk l = true) (Inv : (Nat → Bool) → Act → World → Prop)
    (hstep : ∀ (K : Act → World → Prop) (S : Nat → Bool) (a : Act) (w : World) (i : Nat) (o : Oper), S i = false → l[i]? = some o → (∀ e ∈ o.after, Region.binds .any e = true → S e.on = true) → Inv S a w →
      (∀ a' w', Inv (setS S i) a' w' → K a' w') → wpOpIn (fen bb) 0 P l.toArray Q i K a w)
    (hfin : ∀ (S : Nat → Bool) (a : Act) (w : World), (∀ i, i < l.length → S i = true) → Inv S a w → Q .normal a w) :
    ∀ (fuel : Nat) (listed : Array Bool) (S : Nat → Bool) (a : Act) (w : World), listed.size = l.length → (∀ j, j < l.length → listed.getD j true = S j) → Inv S a w →
      ((List.range l.length).filter fun j => !S j).length ≤ fuel → wpAnyIn (fen bb) 0 P .any l.toArray Q fuel listed a w := by
  intro fuel
  induction fuel with
  | zero =>
    intro listed S a w hs hl hI hc
    have hall : ∀ j, j < l.length → S j = true := by
      intro j hj
      cases h : S j with
      | true => rfl
      | false =>
        have : j ∈ (List.range l.length).filter fun j => !S j := by simp [hj, h]
        rw [List.length_eq_zero_iff.1 (Nat.le_zero.1 hc)] at this
        cases this
    refine ⟨?_, hfin S a w hall hI⟩
    cases hr : Region.ready .any l.toArray listed with
    | nil => rfl
    | cons i _ =>
      have : i ∈ Region.ready .any l.toArray listed := by rw [hr]; simp
      obtain ⟨o, ho, h2, _⟩ := Go.Gx.mem_ready.1 this
      have hi := (List.getElem?_eq_some_iff.1 ho).1
      rw [hl i hi, hall i hi] at h2; cases h2
  | succ fuel ih =>
    intro listed S a w hs hl hI hc
    refine ⟨fun hr => hfin S a w (fun i hi => by rw [← hl i hi]; exact ready_ne hb hs hr i hi) hI, fun i hi => ?_⟩
    obtain ⟨o, ho, h2, h3⟩ := Go.Gx.mem_ready.1 hi
    have hil := (List.getElem?_eq_some_iff.1 ho).1
    have h3' : ∀ e ∈ o.after, Region.binds .any e = true → S e.on = true := by
      intro e he hbe
      have := h3 e he hbe
      have hlt := back_of hb ho e he hbe
      rw [← hl e.on (by omega)]
      rw [Array.getD_eq_getD_getElem?, Array.getElem?_eq_getElem (by omega)] at this ⊢
      simpa using this
    have hSi : S i = false := by rw [← hl i hil]; exact h2
    refine hstep _ S a w i o hSi ho h3' hI fun a' w' hI' => ?_
    refine ih _ (setS S i) a' w' (by simpa using hs) ?_ hI' ?_
    · intro j hj
      rw [getD_set (by omega)]
      unfold setS
      split
      · rfl
      · exact hl j hj
    · have hlt : ((List.range l.length).filter fun j => !setS S i j).length < ((List.range l.length).filter fun j => !S j).length := by
        have e1 : ((List.range l.length).filter fun j => !setS S i j) = (((List.range l.length).filter fun j => !S j)).filter fun j => decide (j ≠ i) := by
          rw [List.filter_filter]
          congr 1; funext j
          unfold setS
          by_cases e : j = i <;> simp [e]
        rw [e1]
        refine List.length_filter_lt_length_iff_exists.2 ⟨i, by simp [hil, hSi], by simp⟩
      omega

/-- What holds when the operations of S are done. -/
structure DInv (P : Program) (G0 : Gh) (B : Nat) (w0 : World) (ds : List Deferred) (l : List Oper) (env : Arr AV) (h0 : Heap) (recs : List Rec) (S : Nat → Bool) (a : Act) (w : World) (G : Gh) : Prop where
  closed : Closed l S
  lt : ∀ k, S k = true → k < l.length
  defers : a.defers = ds
  size : a.tmps.size = env.length
  step : Step G0 G B (hAt S h0 0 recs) w0 w
  new : ∀ (k : Nat) (o : Oper) (d : Nat) (r : Rec), S k = true → l[k]? = some o → o.dst = some d → recs[k]? = some r → ∃ u, a.tmps[d]? = some u ∧ V G r.val u
  old : ∀ (t : Nat) (x : AV), env[t]? = some x → (∀ (k : Nat) (o : Oper), S k = true → l[k]? = some o → o.dst ≠ some t) → ∃ u, a.tmps[t]? = some u ∧ V G x u
  hole : ∀ (k loc n : Nat), S k = false → recs[k]? = some (.hole loc n) → loc < h0.length → G[loc]? = some []

theorem DInv.put {G0 : Gh} {w0 : World} {ds : List Deferred} {l : List Oper} {env : Arr AV} {h0 : Heap} {recs : List Rec} {S : Nat → Bool} {a : Act} {w w' : World} {G G' : Gh} {i : Nat} {o : Oper} {r : Rec} {u : Value}
    (h : DInv P G0 B w0 ds l env h0 recs S a w G) (hi : l[i]? = some o) (hr : recs[i]? = some r) (hS : S i = false) (he : ∀ e ∈ o.after, Region.binds .any e = true → S e.on = true)
    (hd : dstOk (infos l []) = true) (hlt : ∀ (k d m : Nat), (infos l [])[k]? = some (some d, m) → d < env.length)
    (hst : Step G0 G' B (hAt (setS S i) h0 0 recs) w0 w') (hle : G.le G') (hV : V G' r.val u) (hh : ∀ (k loc n : Nat), k ≠ i → S k = false → recs[k]? = some (.hole loc n) → loc < h0.length → G'[loc]? = some []) :
    DInv P G0 B w0 ds l env h0 recs (setS S i) (a.put o.dst u) w' G' := by
  have hinf : ∀ (k : Nat) (o : Oper), l[k]? = some o → ∃ m : Nat, (infos l [])[k]? = some (o.dst, m) := by
    intro k o hk
    have hkl : k < (infos l []).length := by rw [infos_length]; exact (List.getElem?_eq_some_iff.1 hk).1
    have hk2 : (infos l [])[k]? = some (infos l [])[k] := List.getElem?_eq_getElem hkl
    obtain ⟨o', h1, h2⟩ := infos_dst (d := ((infos l [])[k]).1) (m := ((infos l [])[k]).2) hk2
    rw [hk] at h1; cases h1
    exact ⟨((infos l [])[k]).2, by rw [hk2, h2]⟩
  have hother : ∀ t, o.dst ≠ some t → (a.put o.dst u).tmps[t]? = a.tmps[t]? := by
    intro t ht
    cases hdst : o.dst with
    | none => rfl
    | some d =>
      rw [hdst] at ht
      simp only [Act.put]
      rw [Array.getElem?_setIfInBounds_ne (fun e => ht (by rw [e]))]
  refine ⟨fun k o' hk ho' e he' hb => ?_, fun k hk => ?_, ?_, ?_, hst, fun k o' d r' hk ho' hdst hrec => ?_, fun t x hx hno => ?_, fun k loc n hk hrec => ?_⟩
  · unfold setS at hk ⊢
    split
    · rfl
    · split at hk
      · rename_i e1; subst e1; rw [hi] at ho'; cases ho'; exact he e he' hb
      · exact h.closed k o' hk ho' e he' hb
  · unfold setS at hk
    split at hk
    · rename_i e; subst e; exact (List.getElem?_eq_some_iff.1 hi).1
    · exact h.lt k hk
  · cases hdst : o.dst <;> exact h.defers
  · rw [← h.size]
    cases hdst : o.dst with
    | none => rfl
    | some d => simp [Act.put]
  · unfold setS at hk
    split at hk
    · rename_i e; subst e
      rw [hi] at ho'; cases ho'
      rw [hr] at hrec; cases hrec
      obtain ⟨m, hm⟩ := hinf _ _ hi
      rw [hdst] at hm
      have hlt2 := hlt _ _ _ hm
      refine ⟨u, ?_, hV⟩
      rw [hdst]
      simp only [Act.put]
      rw [Array.getElem?_setIfInBounds_self_of_lt (by rw [h.size]; exact hlt2)]
    · rename_i hne
      obtain ⟨u', h1, h2⟩ := h.new k o' d r' hk ho' hdst hrec
      refine ⟨u', ?_, h2.le hle⟩
      rw [hother d (fun e => ?_)]; exact h1
      obtain ⟨m1, hm1⟩ := hinf _ _ hi
      obtain ⟨m2, hm2⟩ := hinf _ _ ho'
      rw [e] at hm1; rw [hdst] at hm2
      exact hne (dstOk_spec hd _ _ _ _ _ hm2 hm1)
  · obtain ⟨u', h1, h2⟩ := h.old t x hx (fun k o' hk ho' => hno k o' (by unfold setS; split <;> first | rfl | exact hk) ho')
    refine ⟨u', ?_, h2.le hle⟩
    rw [hother t (hno i o (setS_same S i) hi)]; exact h1
  · unfold setS at hk
    split at hk
    · cases hk
    · rename_i hne
      exact hh k loc n hne hk hrec

theorem setS_ne {S : Nat → Bool} {i j : Nat} (h : j ≠ i) : setS S i j = S j := by simp [setS, h]
theorem infos_at {l : List Oper} {k : Nat} {o : Oper} (hk : l[k]? = some o) : ∃ m : Nat, (infos l [])[k]? = some (o.dst, m) ∧ Before l k m := by
  have hkl : k < (infos l []).length := by rw [infos_length]; exact (List.getElem?_eq_some_iff.1 hk).1
  have hk2 : (infos l [])[k]? = some (((infos l [])[k]).1, ((infos l [])[k]).2) := List.getElem?_eq_getElem hkl
  obtain ⟨o', h1, h2⟩ := infos_dst hk2
  rw [hk] at h1; cases h1
  have hb := infos_before (l0 := l) (l := l) (acc := []) rfl (fun k m h => by simp at h) k _ _ hk2
  rw [List.length_nil, Nat.zero_add] at hb
  exact ⟨_, by rw [hk2, h2], hb⟩

theorem evD_sound {G0 : Gh} {w0 : World} {ds : List Deferred} {l : List Oper} {env : Arr AV} {vs : List AV} {h0 : Heap} {recs : List Rec} {S : Nat → Bool} {a : Act} {w : World} {G : Gh} {i b : Nat}
    (h : DInv P G0 B w0 ds l env h0 recs S a w G) (hg : Glob P B W0 G w) (hS : S i = false) (hB : ∀ j, bit b j = true → S j = true) (hd : dstOk (infos l []) = true)
    (hvs : ∀ (j : Nat) (v : AV), vs[j]? = some v → ∃ r, recs[j]? = some r ∧ r.val = v) : ∀ x v, evD P (infos l []) env vs i b (hAt S h0 0 recs) x = some v → V G v (a.eval x) := by
  intro x v hv
  have hmev : ∀ y, mev P Arr.nil (hAt S h0 0 recs) y = some v → V G v (({ a with tmps := #[] } : Act).eval y) := fun y hy => by
    have := mev_sound (mk := []) (a := { tmps := #[], defers := [] }) ⟨rfl, by rw [show (Arr.nil : Arr AV).toL = [] from rfl]; exact .nil⟩ h.step.hr hg y v hy
    cases y <;> exact this
  cases x with
  | const c => exact hmev (.const c) hv
  | global g => exact hmev (.global g) hv
  | func f => exact hmev (.func f) hv
  | tmp t =>
    simp only [evD] at hv
    have hfin : (∃ u, a.tmps[t]? = some u ∧ V G v u) → V G v (a.eval (.tmp t)) := by
      rintro ⟨u, h1, h2⟩
      simp only [Act.eval, Array.getD_eq_getD_getElem?, h1]
      exact h2
    apply hfin
    rcases lookT_spec hv with ⟨j, m, h1, h2, h3⟩ | ⟨j, m, h1, h2, h3⟩ | ⟨h1, h2⟩
    · rw [Nat.zero_add] at h2
      obtain ⟨o', e1, e2⟩ := infos_dst h1
      obtain ⟨r, e3, e4⟩ := hvs j v h3
      obtain ⟨u, e5, e6⟩ := h.new j o' t r (hB j h2) e1 e2 e3
      exact ⟨u, e5, e4 ▸ e6⟩
    · refine h.old t v h3 fun k o' hk ho' hdst => ?_
      obtain ⟨m', e1, e2⟩ := infos_at ho'
      rw [hdst] at e1
      have := dstOk_spec hd _ _ _ _ _ e1 h1
      subst this
      rw [h1] at e1; cases e1
      have := e2 o' ho' S h.closed (fun e he hb => h.closed k o' hk ho' e he hb) i h2
      rw [hS] at this; cases this
    · refine h.old t v h2 fun k o' hk ho' hdst => ?_
      obtain ⟨m', e1, e2⟩ := infos_at ho'
      rw [hdst] at e1
      exact h1 _ _ e1

theorem wantD_sound {G0 : Gh} {w0 : World} {ds : List Deferred} {l : List Oper} {env : Arr AV} {vs : List AV} {h0 : Heap} {recs : List Rec} {S : Nat → Bool} {a : Act} {w : World} {G : Gh} {b : Nat} {o : Oper} {wb : Bool}
    (h : DInv P G0 B w0 ds l env h0 recs S a w G) (hB : ∀ j, bit b j = true → S j = true) (hvs : ∀ (j : Nat) (v : AV), vs[j]? = some v → ∃ r, recs[j]? = some r ∧ r.val = v)
    (hw : wantD l o b vs = some wb) : Region.wanted o (yielded l.toArray a.tmps) = wb := by
  unfold wantD at hw
  unfold Region.wanted
  cases hgd : o.guard with
  | none => rw [hgd] at hw; cases hw; rfl
  | some p =>
    obtain ⟨g, x⟩ := p
    rw [hgd] at hw
    simp only at hw ⊢
    split at hw
    · rename_i q v hb hq hv
      have hq' : l.toArray[g]? = some q := by simpa using hq
      split at hw
      · rename_i t hdst
        cases hw
        obtain ⟨r, e1, e2⟩ := hvs g v hv
        obtain ⟨u, e3, e4⟩ := h.new g q t r (hB g hb) hq hdst e1
        rw [e2] at e4
        have : yielded l.toArray a.tmps g = isB (some v) := by
          unfold yielded
          rw [hq']
          simp only [Option.bind_some, hdst, e3]
          cases e4 <;> rfl
        rw [this]
      · rename_i hdst
        cases hw
        have : yielded l.toArray a.tmps g = none := by
          unfold yielded
          rw [hq']
          simp only [Option.bind_some, hdst, Option.bind_none]
        rw [this]; rfl
    · cases hw

theorem step1_act {call : Cal → List AV → Heap → Option CR} {ops : List Oper} {I : List (Option Nat × Nat)} {env : Arr AV} {base : Nat} {h0 h' : Heap} {done : List Rec} {o : Oper} {v : AV}
    (h : step1 P call ops I env base h0 done o = some (.act v h')) : ∃ d b, I[done.length]? = some (d, b) ∧ actsIn b 0 done = true := by
  unfold step1 at h
  split at h
  · cases h
  · rename_i d b hI
    refine ⟨d, b, hI, ?_⟩
    split at h
    · cases h
    · cases h
    · split at h
      · split at h <;> cases h
      · split at h <;> cases h
      · split at h
        · assumption
        · cases h

theorem pfx {G0 : Gh} {w0 : World} {ds : List Deferred} {l : List Oper} {env : Arr AV} {h0 : Heap} {recs : List Rec} {S : Nat → Bool} {a : Act} {w : World} {G : Gh} {call : Cal → List AV → Heap → Option CR} {base : Nat}
    (h : DInv P G0 B w0 ds l env h0 recs S a w G) (hlen : recs.length = l.length) (hs : ∀ (i : Nat) (o : Oper), l[i]? = some o → ∃ r, recs[i]? = some r ∧ step1 P call l (infos l []) env base h0 (recs.take i) o = some r) :
    ∀ (j j' : Nat) (r r' : Rec), j < j' → recs[j]? = some r → isAct r = true → recs[j']? = some r' → isAct r' = true → S j' = true → S j = true := by
  intro j j' r r' hlt hj ha hj' ha' hS
  have hl' : j' < l.length := h.lt j' hS
  have ho' : l[j']? = some l[j'] := List.getElem?_eq_getElem hl'
  obtain ⟨r2, e1, e2⟩ := hs j' _ ho'
  rw [hj'] at e1; cases e1
  cases r' with
  | act v h' =>
    obtain ⟨d, b, e3, e4⟩ := step1_act e2
    rw [List.length_take, Nat.min_eq_left (by omega)] at e3
    have hbit := actsIn_spec e4 j r (by rw [List.getElem?_take_of_lt hlt]; exact hj) ha
    rw [Nat.zero_add] at hbit
    obtain ⟨m, e5, e6⟩ := infos_at ho'
    rw [e3] at e5; cases e5
    exact e6 _ ho' S h.closed (fun e he hb => h.closed j' _ hS ho' e he hb) j hbit
  | _ => cases ha'

theorem hAt_same {S : Nat → Bool} {h0 : Heap} {recs : List Rec} {i : Nat} {r : Rec} (hr : recs[i]? = some r) (ha : isAct r = false) : hAt (setS S i) h0 0 recs = hAt S h0 0 recs := by
  refine hAt_congr fun j r' hj ha' => ?_
  rw [Nat.zero_add]
  refine setS_ne fun e => ?_
  subst e
  rw [hr] at hj; cases hj
  rw [ha] at ha'; cases ha'
theorem split_at {recs : List Rec} {i : Nat} {r : Rec} (hr : recs[i]? = some r) : recs = recs.take i ++ r :: recs.drop (i + 1) := by
  have hi := (List.getElem?_eq_some_iff.1 hr).1
  conv => lhs; rw [← List.take_append_drop i recs]
  rw [List.drop_eq_getElem_cons hi, (List.getElem?_eq_some_iff.1 hr).2]
theorem hAt_act {S : Nat → Bool} {h0 h' : Heap} {recs : List Rec} {i : Nat} {v : AV} (hr : recs[i]? = some (.act v h')) (hS : S i = false)
    (hbefore : ∀ (j : Nat) (r : Rec), (recs.take i)[j]? = some r → isAct r = true → S j = true) (hafter : ∀ (j : Nat) (r : Rec), i < j → recs[j]? = some r → isAct r = true → S j = false) :
    hAt S h0 0 recs = hAll h0 (recs.take i) ∧ hAt (setS S i) h0 0 recs = h' := by
  have hi := (List.getElem?_eq_some_iff.1 hr).1
  have hlen : (recs.take i).length = i := by rw [List.length_take]; omega
  have hdrop : ∀ (j : Nat) (r : Rec), (recs.drop (i + 1))[j]? = some r → isAct r = true → S (i + 1 + j) = false := fun j r hj ha => by
    rw [List.getElem?_drop] at hj
    exact hafter _ r (by omega) hj ha
  constructor
  · have h1 : hAt S h0 0 (recs.take i) = hAll h0 (recs.take i) := hAt_all fun j r hj ha => by rw [Nat.zero_add]; exact hbefore j r hj ha
    conv => lhs; rw [split_at hr]
    rw [hAt_append, hlen, Nat.zero_add, h1]
    simp only [hAt, hS]
    exact hAt_none hdrop
  · conv => lhs; rw [split_at hr]
    rw [hAt_append, hlen, Nat.zero_add]
    simp only [hAt, setS_same, if_true]
    exact hAt_none fun j r hj ha => by
      rw [setS_ne (by omega)]
      exact hdrop j r hj ha

theorem nHoles_append : ∀ (a b : List Rec), nHoles (a ++ b) = nHoles a + nHoles b
  | [], b => by simp [nHoles]
  | r :: a, b => by
    cases r <;> simp only [List.cons_append, nHoles, nHoles_append a b] <;> omega
theorem nHoles_lt {recs : List Rec} {j k loc n : Nat} (hj : recs[j]? = some (.hole loc n)) (hk : j < k) : nHoles (recs.take j) < nHoles (recs.take k) := by
  have : recs.take k = recs.take j ++ .hole loc n :: (recs.take k).drop (j + 1) := by
    have hj' : (recs.take k)[j]? = some (.hole loc n) := by rw [List.getElem?_take_of_lt hk]; exact hj
    have h1 := split_at hj'
    rw [List.take_take, Nat.min_eq_left (by omega)] at h1
    exact h1
  rw [this, nHoles_append]
  simp only [nHoles]
  omega
theorem step1_hole {call : Cal → List AV → Heap → Option CR} {ops : List Oper} {I : List (Option Nat × Nat)} {env : Arr AV} {base loc n : Nat} {h0 : Heap} {done : List Rec} {o : Oper}
    (h : step1 P call ops I env base h0 done o = some (.hole loc n)) : loc = base + nHoles done ∧ ∃ t z, o.op = .alloc t ∧ zeroOf P t = some z ∧ n = z.cells.length := by
  unfold step1 at h
  split at h
  · cases h
  · split at h
    · cases h
    · cases h
    · split at h
      · rename_i t hk
        split at h
        · rename_i z hz
          cases h
          refine ⟨rfl, t, z, ?_, hz, rfl⟩
          generalize o.op = op at hk
          cases op <;> first
            | (cases hk; rfl)
            | (cases hk; done)
            | (simp only [kindOf] at hk; repeat' split at hk; all_goals (cases hk; done))
        · cases h
      · split at h <;> cases h
      · split at h
        · split at h <;> cases h
        · cases h

/-- One operation, in whatever order. -/
theorem drawn_step {call : Cal → List AV → Heap → Option CR} (hcall : CallOK P B W0 call) {G0 : Gh} {w0 : World} {ds : List Deferred} {l : List Oper} {env : Arr AV} {h0 : Heap} {recs : List Rec} {base : Nat} (hg : Glob P B W0 G0 w0) {hh0 : Heap} (hr0 : HR G0 B hh0 w0) (hbase : G0.length = base)
    (hd : dstOk (infos l []) = true) (hlt : ∀ (k d m : Nat), (infos l [])[k]? = some (some d, m) → d < env.length) (hlen : recs.length = l.length)
    (hs : ∀ (i : Nat) (o : Oper), l[i]? = some o → ∃ r, recs[i]? = some r ∧ step1 P call l (infos l []) env base h0 (recs.take i) o = some r)
    (hchk : chks P (infos l []) env (recs.map Rec.val) h0 recs l (infos l []) recs 0 = true)
    {K : Act → World → Prop} {S : Nat → Bool} {a : Act} {w : World} {i : Nat} {o : Oper} (hS : S i = false) (ho : l[i]? = some o) (he : ∀ e ∈ o.after, Region.binds .any e = true → S e.on = true)
    (hI : ∃ G, DInv P G0 B w0 ds l env h0 recs S a w G) (hK : ∀ a' w', (∃ G, DInv P G0 B w0 ds l env h0 recs (setS S i) a' w' G) → K a' w') : wpOpIn (fen bb) 0 P l.toArray Q i K a w := by
  obtain ⟨G, hI⟩ := hI
  obtain ⟨r, hr, hst⟩ := hs i o ho
  obtain ⟨b, hIb, hBef⟩ := infos_at ho
  have hB : ∀ j, bit b j = true → S j = true := hBef o ho S hI.closed he
  have hgG : Glob P B W0 G w := hg.step hr0 hI.step
  have hil : i < recs.length := (List.getElem?_eq_some_iff.1 hr).1
  have hvs1 : ∀ (j : Nat) (v : AV), ((recs.take i).map Rec.val)[j]? = some v → ∃ r, recs[j]? = some r ∧ r.val = v := by
    intro j v hj
    rw [List.getElem?_map, Option.map_eq_some_iff] at hj
    obtain ⟨r', h1, h2⟩ := hj
    rw [List.getElem?_take] at h1
    split at h1
    · exact ⟨r', h1, h2⟩
    · cases h1
  have hvs2 : ∀ (j : Nat) (v : AV), (recs.map Rec.val)[j]? = some v → ∃ r, recs[j]? = some r ∧ r.val = v := by
    intro j v hj
    rw [List.getElem?_map, Option.map_eq_some_iff] at hj
    exact hj
  have hP := pfx hI hlen hs
  have hIS : ∀ (j : Nat) (d : Option Nat) (m : Nat), (infos l [])[j]? = some (d, m) → bit m i = true → S (0 + j) = false := by
    intro j d m hj hb
    rw [Nat.zero_add]
    cases hSj : S j with
    | false => rfl
    | true =>
      obtain ⟨o', e1, e2⟩ := infos_dst hj
      obtain ⟨m', e3, e4⟩ := infos_at e1
      rw [hj] at e3; cases e3
      have := e4 o' e1 S hI.closed (fun e he' hb' => hI.closed j o' hSj e1 e he' hb') i hb
      rw [hS] at this; cases this
  have hQ : ∀ {cond : Heap → Bool}, goQ cond i b recs (infos l []) 0 h0 = true → cond (hAt S h0 0 recs) = true := fun h =>
    goQ_sound hB (by rw [infos_length, hlen]) hIS (fun j j' r r' h1 h2 h3 h4 h5 h6 => by rw [Nat.zero_add] at h6 ⊢; exact hP j j' r r' h1 h2 h3 h4 h5 h6) h
  have hck := chks_spec hchk i o o.dst b r ho hIb hr
  rw [Nat.zero_add] at hck
  have hput := fun {w' : World} {G' : Gh} {u : Value} (h1 : Step G0 G' B (hAt (setS S i) h0 0 recs) w0 w') (h2 : G.le G') (h3 : V G' r.val u) h4 => hI.put ho hr hS he hd hlt h1 h2 h3 h4
  have ho' : l.toArray[i]? = some o := by simpa using ho
  unfold wpOpIn
  rw [ho']
  dsimp only
  have hlt_i : (recs.take i).length = i := by rw [List.length_take]; omega
  have hstep0 := hst
  unfold step1 at hst
  rw [hlt_i, hIb] at hst
  simp only at hst
  have hhole : ∀ (k loc n : Nat), recs[k]? = some (.hole loc n) → ∃ ok t z, l[k]? = some ok ∧ loc = base + nHoles (recs.take k) ∧ ok.op = .alloc t ∧ zeroOf P t = some z ∧ n = z.cells.length := by
    intro k loc n hrec
    have hkl : k < l.length := by rw [← hlen]; exact (List.getElem?_eq_some_iff.1 hrec).1
    obtain ⟨r2, e1, e2⟩ := hs k _ (List.getElem?_eq_getElem hkl)
    rw [hrec] at e1; cases e1
    obtain ⟨h1, t, z, h2, h3, h4⟩ := step1_hole e2
    exact ⟨_, t, z, List.getElem?_eq_getElem hkl, h1, h2, h3, h4⟩
  have hquiet : isAct r = false → ∀ (G' : Gh) (w' : World) (u : Value), Step G G' B (hAt S h0 0 recs) w w' → V G' r.val u → K (a.put o.dst u) w' := by
    intro hra G' w' u hS' hV
    exact hK _ _ ⟨G', hput (by rw [hAt_same hr hra]; exact hI.step.trans hS') hS'.le hV fun k loc n hk hSk hrec hloc => hS'.hole _ (hI.hole k loc n hSk hrec hloc)⟩
  split at hst
  · cases hst
  · -- not wanted
    rename_i hw
    cases hst
    rw [wantD_sound hI hB hvs1 hw, if_neg (by simp)]
    exact ⟨fun f _ => fen_fn bb f, hquiet rfl G w undef (.refl hI.step.hr) (.tup .nil)⟩
  · rename_i hw
    rw [wantD_sound hI hB hvs1 hw, if_pos rfl]
    split at hst
    · -- a new variable
      rename_i t hk
      split at hst
      · rename_i z hz
        cases hst
        obtain ⟨loc, hlocd⟩ : ∃ loc, loc = base + nHoles (recs.take i) := ⟨_, rfl⟩
        rw [← hlocd] at hr hck hput hquiet hstep0
        obtain ⟨o2, t2, z2, q1, q2, q3, q4, q5⟩ := hhole i loc _ hr
        rw [ho] at q1; cases q1
        have ht2 : t2 = t := by rw [q3] at hk; cases hk; rfl
        subst ht2
        rw [hz] at q4; cases q4
        simp only [chk1, q3, Bool.and_eq_true] at hck
        obtain ⟨hc1, hc2⟩ := hck
        have hc1' : loc < h0.length := by simpa using hc1
        have hcond := hQ hc2
        unfold condH at hcond
        rw [hz] at hcond
        split at hcond
        · rename_i z' cells t' hz' hrow
          cases hz'
          simp only [Bool.and_eq_true] at hcond
          have e1 := Nat.eq_of_beq_eq_true hcond.1
          have e2 := AV.beqL_eq _ _ hcond.2
          subst e1; subst e2
          have hGl := hI.hole i loc _ hS hr hc1'
          obtain ⟨u, hrun, hv, _⟩ := run_zero (P := P) G hz
          obtain ⟨dst, op, ty, pos, after, guard⟩ := o
          simp only at q3
          subst q3
          unfold Oper.wpIn
          refine ⟨fun f _ => fen_fn bb f, ?_⟩
          rw [Oper.semAt_eq _ _ _ (fun c hc => by cases hc)]
          have hx : (execOp a.eval ⟨dst, .alloc t', ty, pos, after, guard⟩).run P w = .ok (.value (.pointer (some ⟨w.heap.size, 0, none⟩))) (w.alloc (.cells u.cells t')) := by
            simp [execOp, Instr.alloc, newVar, newRow, hrun]
          rw [hx, Oper.uponIn_value]
          have hbG : G0.length ≤ loc := by omega
          have hcz := hv.cells
          have hul := hcz.length
          rw [Array.length_toList] at hul
          have hgl : loc < G.length := (List.getElem?_eq_some_iff.1 hGl).1
          have hle : G.le (G.set loc [⟨w.heap.size, 0, z.cells.length, u.cells.size, 0⟩]) := by
            intro l v r' ha
            unfold Gh.at at *
            by_cases e : l = loc
            · subst e; rw [hGl] at ha; simp at ha
            · rw [List.getElem?_set_ne (fun q => e q.symm)]; exact ha
          have hone : ∀ (v : Nat) (r : Ver), [(⟨w.heap.size, 0, z.cells.length, u.cells.size, 0⟩ : Ver)][v]? = some r → v = 0 ∧ r = ⟨w.heap.size, 0, z.cells.length, u.cells.size, 0⟩ := by
            intro v r hv
            cases v with
            | zero => simp at hv; exact ⟨rfl, hv.symm⟩
            | succ v => simp at hv
          have hnew := heap_alloc_new w (.cells u.cells t')
          have hF := Step.fill (r := ⟨w.heap.size, 0, z.cells.length, u.cells.size, 0⟩) (w' := w.alloc (.cells u.cells t')) hI.step hrow hGl hbG rfl (Nat.le_refl _) (by simp) (by simp) (fun k hk => (Keep.alloc [] w _).block k hk (by simp)) rfl rfl rfl
            (.inr ⟨rfl, fun v r hv _ => by
                obtain ⟨rfl, rfl⟩ := hone v r hv
                refine ⟨u.cells, t', (0, 0), hnew, fun t e => Option.some.inj e, rfl, by simp; omega, fun p _ hp => ?_⟩
                obtain ⟨y, f1, f2⟩ := hcz.get (List.getElem?_eq_getElem (show p < z.cells.length from hp))
                exact ⟨_, y, List.getElem?_eq_getElem _, by rw [Nat.sub_zero, ← Array.getElem?_toList]; exact f1, f2.le hle⟩,
              fun r hv => by
                obtain ⟨_, rfl⟩ := hone 0 r hv
                exact ⟨rfl, u.cells, t', (0, 0), hnew, Nat.le_refl _, fun j _ _ q => by omega, fun _ => .inl rfl⟩,
              fun v r hv => by
                obtain ⟨_, rfl⟩ := hone v r hv
                exact ⟨Nat.zero_le _, Nat.le_refl _⟩,
              fun v1 v2 r1 r2 e1 e2 _ => by
                obtain ⟨_, rfl⟩ := hone v1 r1 e1
                obtain ⟨_, rfl⟩ := hone v2 r2 e2
                rfl,
              Nat.le_refl _, fun v r hv => (by
                obtain ⟨_, rfl⟩ := hone v r hv
                rfl), Nat.zero_le _⟩)
          refine hK _ _ ⟨_, hput (by rw [hAt_same hr rfl]; exact hF) hle (.ptr (r := ⟨w.heap.size, 0, z.cells.length, u.cells.size, 0⟩) ?_ (Nat.zero_le _) (Nat.le_refl _)) fun k loc2 n hk2 hSk hrec hloc => ?_⟩
          · unfold Gh.at
            rw [List.getElem?_set_self hgl]
            rfl
          · have hne : loc ≠ loc2 := by
              obtain ⟨_, _, _, _, g2, _⟩ := hhole k loc2 n hrec
              rcases Nat.lt_or_ge k i with hki | hki
              · have := nHoles_lt hrec hki; omega
              · have := nHoles_lt hr (show i < k by omega); omega
            rw [List.getElem?_set_ne hne]
            exact hI.hole k loc2 n hSk hrec hloc
        · cases hcond
      · cases hst
    · -- quiet
      rename_i hk
      split at hst
      · rename_i v h' hm
        cases hst
        have hcond := hQ hck
        unfold condQ at hcond
        split at hcond
        · rename_i v' h2 hm2
          have := AV.beq_eq _ _ hcond
          subst this
          have := kind_quiet hk hm2
          subst this
          have hev := evD_sound hI hgG hS hB hd hvs2
          obtain ⟨w', u, G', hrun, hS', hV⟩ := mop_sound hI.step.hr hev hm2
          obtain ⟨dst, op, ty, pos, after, guard⟩ := o
          unfold Oper.wpIn
          refine ⟨fun f _ => fen_fn bb f, ?_⟩
          rw [Oper.semAt_eq _ _ _ (fun c hc => by simp only at hc; subst hc; cases hk)]
          rw [hrun, Oper.uponIn_value]
          exact hquiet rfl G' w' u hS' hV
        · cases hcond
      · cases hst
    · -- an act
      rename_i hk
      split at hst
      · rename_i hin
        split at hst
        · rename_i v h' hm
          cases hst
          obtain ⟨e1, e2⟩ := hAt_act hr hS (fun j r' hj ha => hB j (by have := actsIn_spec hin j r' hj ha; rwa [Nat.zero_add] at this)) (fun j r' hij hj ha => by
            cases hSj : S j with
            | false => rfl
            | true => have := hP i j _ r' hij hr rfl hj ha hSj; rw [hS] at this; cases this)
          rw [← e1] at hm
          have hev := evD_sound hI hgG hS hB hd hvs1
          refine mexD_sound hcall hev hI.step.hr hgG hm fun u w' G' hS' hV => ?_
          exact hK _ _ ⟨G', hput (by rw [e2]; exact hI.step.trans hS') hS'.le hV fun k loc n hk hSk hrec hloc => hS'.hole _ (hI.hole k loc n hSk hrec hloc)⟩
        · cases hst
      · cases hst

theorem holesOf_row : ∀ {l : List Oper} {hs : List Blk}, holesOf P l = some hs → ∀ b ∈ hs, ∃ cells t, b = .row cells 0 0 0 false (some t)
  | [], hs, h, b, hb => by cases h; cases hb
  | o :: l, hs, h, b, hb => by
    unfold holesOf at h
    split at h
    · rename_i t bs hop hbs
      split at h
      · rename_i z hz
        cases h
        rcases List.mem_cons.1 hb with rfl | hb
        · exact ⟨_, _, rfl⟩
        · exact holesOf_row hbs b hb
      · cases h
    · exact holesOf_row h b hb
theorem Step.holes {w : World} : ∀ {hs : List Blk} {G : Gh} {h : Heap}, HR G B h w → (∀ b ∈ hs, ∃ cells t, b = .row cells 0 0 0 false (some t)) → Step G (G ++ List.replicate hs.length []) B (h ++ hs) w w
  | [], G, h, hr, _ => by rw [Arr.app_nil, List.length_nil, List.replicate_zero, List.append_nil]; exact Step.refl hr
  | b :: hs, G, h, hr, hb => by
    obtain ⟨cells, t, rfl⟩ := hb b List.mem_cons_self
    have h1 : Step G (G ++ [[]]) B (h ++ [Blk.row cells 0 0 0 false (some t)]) w w := Step.push hr rfl (Nat.le_refl _) (fun _ _ => rfl) rfl rfl rfl (fun v r hv => by simp at hv) (.inl rfl)
    have h2 := Step.holes h1.hr (fun b' hb' => hb b' (List.mem_cons_of_mem _ hb'))
    have h3 := h1.trans h2
    rw [List.append_assoc] at h3
    rw [List.length_cons, List.replicate_succ]
    exact h3

/-- A region whose order is drawn. -/
theorem mdrawn_sound {call : Cal → List AV → Heap → Option CR} (hm : P.follows .mixedOrders = true) (hcall : CallOK P B W0 call) {l : List Oper} {env : Arr AV} {mk : List Dfd} {h : Heap} {r : OR} {G : Gh} {a0 : Act} {w : World} {id : Nat}
    (he : mdrawn P call l env h mk = some r) (ha : AR G env mk a0) (hr : HR G B h w) (hg : Glob P B W0 G w) :
    ∃ env' h', r = .ok env' h' mk ∧ ((∀ G' a' w', Step G G' B h' w w' → AR G' env' mk a' → Q .normal a' w') → (Code.region id l.toArray true).wpIn (fen bb) 0 P Q a0 w) := by
  unfold mdrawn at he
  split at he
  · rename_i hs hbd hhs
    simp only [Bool.and_eq_true] at hbd
    obtain ⟨hb, hd⟩ := hbd
    unfold mdrawn2 at he
    split at he
    · cases he
    · rename_i recs hst
      split at he
      · rename_i hchk
        unfold setO at he
        split at he
        · rename_i env' hfe
          cases he
          refine ⟨env', _, rfl, fun hok => ?_⟩
          obtain ⟨hlen, _, hs1⟩ := steps_spec hst
          simp only [List.length_nil, Nat.zero_add] at hlen hs1
          have hil : (infos l []).length = recs.length := by rw [infos_length, hlen]
          obtain ⟨f1, f2, f3⟩ := finE_spec hil hfe
          have hH := Step.holes hr (holesOf_row hhs)
          have hH2 : Step G (G ++ List.replicate hs.length []) B (h ++ hs) w { w with drawn := w.drawn + 1 } := hH.trans (Step.grow hH.hr (Nat.le_refl _) (fun _ _ => rfl) rfl rfl rfl)
          refine wpIn_region_any hm ?_
          refine drawn_any hb (fun S a w' => ∃ G', DInv P G B w a0.defers l env (h ++ hs) recs S a w' G') (fun K S a w i o hS ho hed hI hK => drawn_step hcall hg hr hr.len hd f2 hlen hs1 hchk hS ho hed hI hK) ?_ _ _ (fun _ => false) _ _ (by simp) (fun j hj => by rw [Array.getD_eq_getD_getElem?, Array.getElem?_replicate]; simp [hj]) ?_ ?_
          · rintro S a' w' hall ⟨G', hD⟩
            have hh : hAt S (h ++ hs) 0 recs = hAll (h ++ hs) recs := hAt_all fun j r hj _ => by
              rw [Nat.zero_add]
              exact hall j (by rw [← hlen]; exact (List.getElem?_eq_some_iff.1 hj).1)
            have hstep := hD.step
            rw [hh] at hstep
            refine hok G' a' w' hstep ⟨by rw [hD.defers]; exact ha.defers.le hstep.le, VL.of_get (by rw [Array.length_toList, hD.size, Arr.toL_length, f1]) fun t x u hx hu => ?_⟩
            rw [Arr.get_toL] at hx
            rw [Array.getElem?_toList] at hu
            rcases f3 t x hx with ⟨k, m, r, e1, e2, e3⟩ | ⟨e1, e2⟩
            · obtain ⟨o, e4, e5⟩ := infos_dst e1
              obtain ⟨u', e6, e7⟩ := hD.new k o t r (hall k (List.getElem?_eq_some_iff.1 e4).1) e4 e5 e2
              rw [hu] at e6; cases e6
              rw [e3]; exact e7
            · obtain ⟨u', e6, e7⟩ := hD.old t x e2 fun k o hk ho hdst => by
                obtain ⟨m, e8, _⟩ := infos_at ho
                rw [hdst] at e8
                exact e1 _ _ e8
              rw [hu] at e6; cases e6
              exact e7
          · refine ⟨G ++ List.replicate hs.length [], ⟨(fun k o hk => by cases hk), (fun k hk => by cases hk), rfl, ?_, ?_, (fun k o d r hk => by cases hk), fun t x hx _ => ?_, fun k loc n _ hrec hloc => ?_⟩⟩
            · exact ha.size
            · rw [hAt_none (fun _ _ _ _ => rfl)]; exact hH2
            · obtain ⟨u, e1, e2⟩ := ha.get hx
              rw [Array.getElem?_toList] at e1
              exact ⟨u, e1, e2.le hH2.le⟩
            · have hkl : k < l.length := by rw [← hlen]; exact (List.getElem?_eq_some_iff.1 hrec).1
              obtain ⟨r2, e1, e2⟩ := hs1 k _ (List.getElem?_eq_getElem hkl)
              rw [hrec] at e1; cases e1
              have hloc2 := (step1_hole e2).1
              have hgl := hr.len
              rw [List.getElem?_append_right (by omega), List.getElem?_replicate, if_pos (by rw [Arr.length_app] at hloc; omega)]
          · simpa using List.length_filter_le (fun j => !false) (List.range l.length)
        · cases he
      · cases he
  · cases he
end
end Go.Mx
