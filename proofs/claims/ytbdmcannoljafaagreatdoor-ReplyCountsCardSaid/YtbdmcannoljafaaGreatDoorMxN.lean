/- The machine M: regions, code, calls; sound. -/
import Derived.Test.YtbdmcannoljafaaGreatDoorMxM
set_option linter.unusedVariables false
set_option linter.unusedSimpArgs false
namespace Go.Mx
open Go Go.Gx

structure St where
  env : List AV
  h : Heap
inductive Ex where
  | normal | ret | exit (id : Nat) | panic (v : AV)
/-- What a call ends with. -/
inductive CR where
  | ret (v : AV) (h : Heap)
  | pan (v : AV) (h : Heap)
inductive OR where
  | ok (env : List AV) (h : Heap)
  | pan (v : AV) (h : Heap)

def setT (env : List AV) (d : Option Nat) (v : AV) : Option (List AV) :=
  match d with
  | none => some env
  | some d => if d < env.length then some (env.set d v) else none
def setO (h : Heap) (o : Option (List AV)) : Option OR :=
  match o with
  | some env => some (.ok env h)
  | none => none
def isB : Option AV → Option Bool
  | some (.bool b) => some b
  | _ => none
def yl (ops : Array Oper) (env : List AV) (j : Nat) : Option Bool :=
  match ops[j]? with
  | some o => match o.dst with
    | some t => isB env[t]?
    | none => none
  | none => none
def want (ops : Array Oper) (o : Oper) (env : List AV) : Bool :=
  match o.guard with
  | none => true
  | some (j, b) => yl ops env j == some b
def panicOp : Op → Option Operand
  | .panic x => some x
  | _ => none
def mdone (call : FuncId → List AV → Heap → Option CR) (dst : Option Nat) (env : List AV) (h : Heap) : Rs → Option OR
  | .val v h' => setO h' (setT env dst v)
  | .unit h' => setO h' (setT env dst .undef)
  | .call f args => match call f args h with
    | some (.ret v h') => setO h' (setT env dst v)
    | some (.pan v h') => some (.pan v h')
    | none => none
def mexec (P : Program) (call : FuncId → List AV → Heap → Option CR) (o : Oper) (env : List AV) (h : Heap) : Option OR :=
  match panicOp o.op with
  | some x => match mev P env h x with
    | some (.ifc t v) => some (.pan (.ifc t v) h)
    | _ => none
  | none => match mop P (mev P env h) h o.op with
    | some q => mdone call o.dst env h q
    | none => none
def mops (P : Program) (call : FuncId → List AV → Heap → Option CR) (ops : Array Oper) : List Oper → List AV → Heap → Option OR
  | [], env, h => some (.ok env h)
  | o :: l, env, h =>
    match want ops o env with
    | true => match mexec P call o env h with
      | some (.ok env' h') => mops P call ops l env' h'
      | r => r
    | false => match setT env o.dst .undef with
      | some env' => mops P call ops l env' h
      | none => none
def ofOR : Option OR → Option (Ex × St)
  | some (.ok env h) => some (.normal, ⟨env, h⟩)
  | some (.pan v h) => some (.panic v, ⟨[], h⟩)
  | none => none

abbrev Hooks := FuncId → Option (List AV → Heap → Option CR)

/-! Soundness. -/
structure AR (G : Gh) (env : List AV) (a : Act) : Prop where
  defers : a.defers = []
  env : VL G env a.tmps.toList
/-- Where the package variables lie; and what lies below B is what lay there in W0. -/
structure Glob (P : Program) (B : Nat) (W0 : World) (G : Gh) (w : World) : Prop where
  g : ∀ g, g < P.globals.size → ∃ r, G.at g 0 = some r ∧ r.b = g ∧ r.lo = 0 ∧ r.sh = 0
  low : ∀ b, b < B → w.heap[b]? = W0.heap[b]?
theorem Glob.step {P : Program} {B : Nat} {W0 : World} {G G' : Gh} {w w' : World} {h h' : Heap} (hg : Glob P B W0 G w) (hr : HR G B h w) (hS : Step G G' B h' w w') : Glob P B W0 G' w' :=
  ⟨fun g hlt => let ⟨r, h1, h2⟩ := hg.g g hlt; ⟨r, hS.le _ _ _ h1, h2⟩, fun b hb => by
    rw [← hg.low b hb]
    refine hS.fr.low b (Nat.lt_of_lt_of_le hb hr.base) fun loc v r _ hB e => ?_
    omega⟩
theorem AR.le {G G' : Gh} {env : List AV} {a : Act} (h : AR G env a) (hl : G.le G') : AR G' env a := ⟨h.defers, h.env.le hl⟩

def ExOK (G : Gh) (e : Ex) (env : List AV) (x : Exit) (a : Act) : Prop :=
  match e with
  | .normal => x = .normal ∧ AR G env a
  | .ret => x = .ret ∧ AR G env a
  | .exit id => x = .exit id ∧ AR G env a
  | .panic v => ∃ u, V G v u ∧ x = .panic [{ v := u, recovered := false }] ∧ a.defers = []
def PostR (G : Gh) (B : Nat) (w : World) (e : Ex) (st : St) (x : Exit) (a : Act) (w' : World) : Prop := ∃ G', Step G G' B st.h w w' ∧ ExOK G' e st.env x a

def RunOK (P : Program) (B : Nat) (W0 : World) (run : Code → St → Option (Ex × St)) : Prop :=
  ∀ c st e st', run c st = some (e, st') → ∀ (G : Gh) (a : Act) (w : World), AR G st.env a → HR G B st.h w → Glob P B W0 G w → c.wp P (PostR G B w e st') a w
def CROK (G : Gh) (B : Nat) (w : World) (r : CR) (e : Ending) (w' : World) : Prop :=
  match r with
  | .ret v h' => ∃ G', Step G G' B h' w w' ∧ ∃ u, V G' v u ∧ e = .returned u
  | .pan v h' => ∃ G', Step G G' B h' w w' ∧ ∃ u, V G' v u ∧ e = .panicked [{ v := u, recovered := false }]
def CallR (P : Program) (B : Nat) (W0 : World) (f : FuncId) (args : List AV) (h : Heap) (r : CR) : Prop :=
  ∀ (G : Gh) (us : List Value) (w : World), VL G args us → HR G B h w → Glob P B W0 G w →
    (Calls P f us.toArray w (CROK G B w r) ∧ Enters P f) ∨ ∃ v h' u w' G', r = .ret v h' ∧ (callFunc f us.toArray).run P w = .ok (.value u) w' ∧ Step G G' B h' w w' ∧ V G' v u
def CallOK (P : Program) (B : Nat) (W0 : World) (call : FuncId → List AV → Heap → Option CR) : Prop := ∀ f args h r, call f args h = some r → CallR P B W0 f args h r
def HooksOK (P : Program) (B : Nat) (W0 : World) (hk : Hooks) : Prop := ∀ f g, hk f = some g → ∀ args h r, g args h = some r → CallR P B W0 f args h r

section
variable {P : Program} {B : Nat} {W0 : World}

theorem mev_sound {G : Gh} {env : List AV} {h : Heap} {a : Act} {w : World} (ha : AR G env a) (hr : HR G B h w) (hg : Glob P B W0 G w) : ∀ x v, mev P env h x = some v → V G v (a.eval x) := by
  intro x v hv
  cases x with
  | tmp t =>
    obtain ⟨u, h1, h2⟩ := ha.env.get hv
    rw [Array.getElem?_toList] at h1
    simp only [Act.eval, Array.getD_eq_getD_getElem?, h1]
    exact h2
  | const c => exact ofConst_sound G hv
  | global g =>
    simp only [mev] at hv
    split at hv
    · rename_i hlt
      obtain ⟨r, h1, h2, h3, h3s⟩ := hg.g g hlt
      have key : ∀ lim, lim ≤ r.top → V G (.ptr g 0 0 lim) (a.eval (.global g)) := by
        intro lim hl
        have := V.ptr (G := G) (loc := g) (off := 0) (ver := 0) (lim := lim) (r := r) h1 (by omega) hl
        rw [h2, h3, h3s] at this
        exact this
      split at hv
      · rename_i cells minv frz ro tt hb
        cases hv
        obtain ⟨b, vs, hb', hg', hv', hR⟩ := hr.get h1
        rw [hb] at hb'; cases hb'
        rcases hR with rfl | hR
        · simp at hv'
        · exact key _ (Nat.le_of_eq (hR.tip r hv').1.symm)
      · rename_i cells hb
        cases hv
        obtain ⟨b, vs, hb', hg', hv', hR⟩ := hr.get h1
        rw [hb] at hb'; cases hb'
        rcases hR with rfl | ⟨r0, rfl, hl, ht, _⟩
        · simp at hv'
        · simp at hv'
          subst hv'
          exact key _ (by omega)
      · cases hv; exact key 0 (Nat.zero_le _)
      · cases hv
    · cases hv
  | func f => cases hv; exact .fn f .nil .nil

theorem put_sound {G : Gh} {env env' : List AV} {a : Act} {d : Option Nat} {v : AV} {u : Value} (ha : AR G env a) (hs : setT env d v = some env') (hv : V G v u) : AR G env' (a.put d u) := by
  cases d with
  | none => cases hs; exact ha
  | some d =>
    simp only [setT] at hs
    split at hs
    · rename_i hd
      cases hs
      refine ⟨ha.defers, ?_⟩
      simp only [Act.put, Array.toList_setIfInBounds]
      refine VL.of_get (by have := ha.env.length; simp at this ⊢; exact this) fun i x y hx hy => ?_
      rw [List.getElem?_set] at hx hy
      split at hx
      · rename_i hid
        rw [if_pos hid] at hy
        cases hx
        split at hy
        · cases hy; exact hv
        · cases hy
      · rename_i hid
        rw [if_neg hid] at hy
        obtain ⟨y', h1, h2⟩ := ha.env.get hx
        rw [h1] at hy; cases hy; exact h2
    · cases hs

theorem want_sound {G : Gh} {env : List AV} {a : Act} {ops : Array Oper} {o : Oper} (ha : AR G env a) : Region.wanted o (yielded ops a.tmps) = want ops o env := by
  have key : ∀ j, yielded ops a.tmps j = yl ops env j := by
    intro j
    unfold yielded yl
    cases ops[j]? with
    | none => rfl
    | some q =>
      simp only [Option.bind_some]
      cases q.dst with
      | none => rfl
      | some t =>
        simp only [Option.bind_some]
        cases hx : env[t]? with
        | none =>
          have : a.tmps[t]? = none := by
            have hl := ha.env.length
            rw [Array.length_toList] at hl
            rw [List.getElem?_eq_none_iff] at hx
            exact Array.getElem?_eq_none (by omega)
          rw [this]; rfl
        | some x =>
          obtain ⟨u, h1, h2⟩ := ha.env.get hx
          rw [Array.getElem?_toList] at h1
          rw [h1]
          cases h2 <;> rfl
  unfold Region.wanted want
  cases o.guard with
  | none => rfl
  | some p => obtain ⟨j, b⟩ := p; simp only [key]

/-- One operation. -/
theorem mexec_sound {call : FuncId → List AV → Heap → Option CR} (hcall : CallOK P B W0 call) {G : Gh} {env : List AV} {h : Heap} {a : Act} {w : World} {o : Oper} {r : OR} (ha : AR G env a) (hr : HR G B h w) (hg : Glob P B W0 G w)
    (he : mexec P call o env h = some r) {K : Act → World → Prop} {Q : Exit → Act → World → Prop}
    (hok : ∀ env' h' G' a' w', r = .ok env' h' → Step G G' B h' w w' → AR G' env' a' → K a' w')
    (hpan : ∀ v h' G' u w', r = .pan v h' → Step G G' B h' w w' → V G' v u → Q (.panic [{ v := u, recovered := false }]) a w') : o.wp P a w K Q := by
  obtain ⟨dst, op, ty, pos, after, guard⟩ := o
  have hev := mev_sound ha hr hg
  unfold Oper.wp
  have main : ∀ {q : Rs}, mop P (mev P env h) h op = some q → mdone call dst env h q = some r → Oper.upon P ⟨dst, op, ty, pos, after, guard⟩ a K Q ((execOp a.eval ⟨dst, op, ty, pos, after, guard⟩).run P w) := by
    intro q hq hres
    have hs := mop_sound hr hev hq
    unfold mdone at hres
    cases q with
    | val v h' =>
      obtain ⟨w', u, G', hrun, hS, hV⟩ := hs
      rw [hrun, Oper.upon_value]
      simp only [setO] at hres
      split at hres
      · rename_i env' hset
        cases hres
        exact hok _ _ G' _ _ rfl hS (put_sound (ha.le hS.le) hset hV)
      · cases hres
    | unit h' =>
      obtain ⟨w', G', hrun, hS⟩ := hs
      rw [hrun, Oper.upon_skip]
      simp only [setO] at hres
      split at hres
      · rename_i env' hset
        cases hres
        exact hok _ _ G' _ _ rfl hS (put_sound (ha.le hS.le) hset (.tup .nil))
      · cases hres
    | call f args =>
      obtain ⟨us, hV, hrun⟩ := hs
      simp only at hres
      cases hc : call f args h with
      | none => rw [hc] at hres; cases hres
      | some cr =>
        rw [hc] at hres
        rcases hcall f args h cr hc G us w hV hr hg with ⟨hC, hE⟩ | ⟨v, h', u, w', G', rfl, hv, hS, hV'⟩
        · rw [hrun, hE, Oper.upon_enter]
          refine hC.mono fun e w' hcr => ?_
          cases cr with
          | ret v h' =>
            obtain ⟨G', hS, u, hv, rfl⟩ := hcr
            simp only [setO] at hres
            simp only
            split at hres
            · rename_i env' hset
              cases hres
              exact hok _ _ G' _ _ rfl hS (put_sound (ha.le hS.le) hset hv)
            · cases hres
          | pan v h' =>
            obtain ⟨G', hS, u, hv, rfl⟩ := hcr
            simp only at hres ⊢
            cases hres
            exact hpan _ _ G' u _ rfl hS hv
        · rw [hrun, hv, Oper.upon_value]
          simp only [setO] at hres
          split at hres
          · rename_i env' hset
            cases hres
            exact hok _ _ G' _ _ rfl hS (put_sound (ha.le hS.le) hset hV')
          · cases hres
  unfold mexec at he
  cases hp : panicOp op with
  | some x =>
    simp only [hp] at he
    obtain rfl : op = .panic x := by cases op <;> simp [panicOp] at hp; subst hp; rfl
    split at he
    · rename_i t v hx
      cases he
      have hV := hev _ _ hx
      generalize hu : a.eval x = u at hV
      cases hV with
      | @ifc _ _ u' hv =>
        have hrun : (execOp a.eval ⟨dst, .panic x, ty, pos, after, guard⟩).run P w = .halt (.panic (.iface t u')) w := by
          simp [execOp, hu, Instr.panic]
        rw [hrun, Oper.upon_panic]
        exact hpan _ _ G _ _ rfl (.refl hr) (.ifc t hv)
    · cases he
  | none =>
    simp only [hp] at he
    split at he
    · rename_i q hq; exact main hq he
    · cases he

theorem mops_sound {call : FuncId → List AV → Heap → Option CR} (hcall : CallOK P B W0 call) {ops : Array Oper} {Q : Exit → Act → World → Prop} : ∀ {l : List Oper} {G : Gh} {env : List AV} {h : Heap} {a : Act} {w : World} {r : OR}, AR G env a → HR G B h w → Glob P B W0 G w →
    mops P call ops l env h = some r →
    (∀ env' h' G' a' w', r = .ok env' h' → Step G G' B h' w w' → AR G' env' a' → Q .normal a' w') →
    (∀ v h' G' u a' w', r = .pan v h' → Step G G' B h' w w' → V G' v u → a'.defers = [] → Q (.panic [{ v := u, recovered := false }]) a' w') → wpList P ops Q l a w
  | [], G, env, h, a, w, r, ha, hr, hg, he, hok, hpan => by
    cases he
    exact hok _ _ G _ _ rfl (.refl hr) ha
  | o :: l, G, env, h, a, w, r, ha, hr, hg, he, hok, hpan => by
    unfold mops at he
    unfold wpList
    rw [want_sound ha]
    cases hw : want ops o env with
    | true =>
      rw [hw] at he
      rw [if_pos rfl]
      refine .inl ?_
      simp only at he
      cases hx : mexec P call o env h with
      | none => rw [hx] at he; cases he
      | some q =>
        rw [hx] at he
        refine mexec_sound hcall ha hr hg hx (fun env' h' G' a' w' hq hS hA => ?_) (fun v h' G' u w' hq hS hV => ?_)
        · subst hq
          exact mops_sound hcall hA hS.hr (hg.step hr hS) he (fun env2 h2 G2 a2 w2 e2 S2 A2 => hok _ _ _ _ _ e2 (hS.trans S2) A2) (fun v2 h2 G2 u2 a2 w2 e2 S2 V2 D2 => hpan _ _ _ _ _ _ e2 (hS.trans S2) V2 D2)
        · subst hq
          cases he
          exact hpan _ _ _ _ _ _ rfl hS hV ha.defers
    | false =>
      rw [hw] at he
      rw [if_neg (by simp)]
      simp only at he
      split at he
      · rename_i env' hs
        exact mops_sound hcall (put_sound ha hs (.tup .nil)) hr hg he hok hpan
      · cases he

end
end Go.Mx
