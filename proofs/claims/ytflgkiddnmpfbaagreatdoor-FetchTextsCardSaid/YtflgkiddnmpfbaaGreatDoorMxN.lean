/- The machine M: regions, code, calls; sound. -/
import Derived.Test.YtflgkiddnmpfbaaGreatDoorMxM
set_option linter.unusedVariables false
set_option linter.unusedSimpArgs false
namespace Go.Mx
open Go Go.Gx

/-- What is done when the function is left: a loop's mark, a call. -/
inductive Dfd where
  | mark (loc : Nat)
  | call (f : FuncId) (args cap : List AV)
structure St where
  env : Arr AV
  h : Heap
  dl : List Dfd
  rnd : Option Nat
inductive Ex where
  | normal | ret | exit (id : Nat) | panic (v : AV)
/-- What a call ends with. -/
inductive CR where
  | ret (v : AV) (h : Heap)
  | pan (v : AV) (h : Heap)
inductive OR where
  | ok (env : Arr AV) (h : Heap) (mk : List Dfd)
  | pan (v : AV) (env : Arr AV) (h : Heap) (mk : List Dfd)

def setT (env : Arr AV) (d : Option Nat) (v : AV) : Option (Arr AV) :=
  match d with
  | none => some env
  | some d => if d < env.length then some (env.set d v) else none
def setO (h : Heap) (mk : List Dfd) (o : Option (Arr AV)) : Option OR :=
  match o with
  | some env => some (.ok env h mk)
  | none => none
def isB : Option AV → Option Bool
  | some (.bool b) => some b
  | _ => none
def yl (ops : Array Oper) (env : Arr AV) (j : Nat) : Option Bool :=
  match ops[j]? with
  | some o => match o.dst with
    | some t => isB env[t]?
    | none => none
  | none => none
def want (ops : Array Oper) (o : Oper) (env : Arr AV) : Bool :=
  match o.guard with
  | none => true
  | some (j, b) => yl ops env j == some b
def panicOp : Op → Option Operand
  | .panic x => some x
  | _ => none
def mdone (call : Cal → List AV → Heap → Option CR) (dst : Option Nat) (env : Arr AV) (h : Heap) (mk : List Dfd) (rnd : Option Nat) : Rs → Option OR
  | .val v h' => setO h' mk (setT env dst v)
  | .unit h' => setO h' mk (setT env dst .undef)
  | .call f args => match call f args h with
    | some (.ret v h') => setO h' mk (setT env dst v)
    | some (.pan v h') => some (.pan v env h' mk)
    | none => none
  | .dfr f args cap => match rnd with
    | none => setO h (.call f args cap :: mk) (setT env dst .undef)
    | some _ => none
def mexec (P : Program) (call : Cal → List AV → Heap → Option CR) (o : Oper) (env : Arr AV) (h : Heap) (mk : List Dfd) (rnd : Option Nat) : Option OR :=
  match panicOp o.op with
  | some x => match mev P env h x with
    | some (.ifc t v) => some (.pan (.ifc t v) env h mk)
    | _ => none
  | none => match mop P (mev P env h) h o.op with
    | some q => mdone call o.dst env h mk rnd q
    | none => none
def mops (P : Program) (call : Cal → List AV → Heap → Option CR) (ops : Array Oper) (rnd : Option Nat) : List Oper → Arr AV → Heap → List Dfd → Option OR
  | [], env, h, mk => some (.ok env h mk)
  | o :: l, env, h, mk =>
    match want ops o env with
    | true => match mexec P call o env h mk rnd with
      | some (.ok env' h' mk') => mops P call ops rnd l env' h' mk'
      | r => r
    | false => match setT env o.dst .undef with
      | some env' => mops P call ops rnd l env' h mk
      | none => none
def ofOR (rnd : Option Nat) : Option OR → Option (Ex × St)
  | some (.ok env h mk) => some (.normal, ⟨env, h, mk, rnd⟩)
  | some (.pan v env h mk) => some (.panic v, ⟨env, h, mk, rnd⟩)
  | none => none

abbrev Hooks := FuncId → Option (List AV → Heap → Option CR)

/-! Soundness. -/
def MK (G : Gh) : List Dfd → List Deferred → Prop
  | [], ds => ds = []
  | .mark loc :: l, ds => ∃ r ds', G.at loc 0 = some r ∧ ds = { target := .collected r.b, args := #[] } :: ds' ∧ MK G l ds'
  | .call f args cap :: l, ds => ∃ us vc ds', VL G args us ∧ VL G cap vc ∧ ds = { target := .fn (.func f) vc.toArray, args := us.toArray } :: ds' ∧ MK G l ds'
theorem MK.le {G G' : Gh} (hl : G.le G') : ∀ {mk : List Dfd} {ds : List Deferred}, MK G mk ds → MK G' mk ds
  | [], _, h => h
  | .mark loc :: l, _, ⟨r, ds', h1, h2, h3⟩ => ⟨r, ds', hl _ _ _ h1, h2, MK.le hl h3⟩
  | .call f args cap :: l, _, ⟨us, vc, ds', h1, h2, h3, h4⟩ => ⟨us, vc, ds', h1.le hl, h2.le hl, h3, MK.le hl h4⟩
structure AR (G : Gh) (env : Arr AV) (mk : List Dfd) (a : Act) : Prop where
  defers : MK G mk a.defers
  env : VL G env.toL a.tmps.toList
theorem AR.get {G : Gh} {env : Arr AV} {mk : List Dfd} {a : Act} (h : AR G env mk a) {t : Nat} {v : AV} (hv : env[t]? = some v) : ∃ u, a.tmps.toList[t]? = some u ∧ V G v u := h.env.get (Arr.get_toL.trans hv)
theorem AR.size {G : Gh} {env : Arr AV} {mk : List Dfd} {a : Act} (h : AR G env mk a) : a.tmps.size = env.length := by
  have := h.env.length
  rwa [Array.length_toList, Arr.toL_length] at this
/-- Where the package variables lie; and what lies below B is what lay there in W0. -/
structure Glob (P : Program) (B : Nat) (W0 : World) (G : Gh) (w : World) : Prop where
  g : ∀ g, g < P.globals.size → ∃ r, G.at g 0 = some r ∧ r.b = g ∧ r.lo = 0 ∧ r.sh = 0
  low : ∀ b, b < B → w.heap[b]? = W0.heap[b]?
theorem Glob.step {P : Program} {B : Nat} {W0 : World} {G G' : Gh} {w w' : World} {h h' : Heap} (hg : Glob P B W0 G w) (hr : HR G B h w) (hS : Step G G' B h' w w') : Glob P B W0 G' w' :=
  ⟨fun g hlt => let ⟨r, h1, h2⟩ := hg.g g hlt; ⟨r, hS.le _ _ _ h1, h2⟩, fun b hb => by
    rw [← hg.low b hb]
    refine hS.fr.low b (Nat.lt_of_lt_of_le hb hr.base) fun loc v r _ hB e => ?_
    omega⟩
theorem AR.le {G G' : Gh} {env : Arr AV} {mk : List Dfd} {a : Act} (h : AR G env mk a) (hl : G.le G') : AR G' env mk a := ⟨h.defers.le hl, h.env.le hl⟩

/-- The fence of a frame: in a loop's round, or in none. -/
def fen : Option Nat → Fence
  | none => Fence.wide
  | some b => Fence.wide.inRound b
def RN (G : Gh) (rnd b : Option Nat) : Prop := match rnd with
  | none => b = none
  | some loc => ∃ r, G.at loc 0 = some r ∧ b = some r.b
theorem RN.le {G G' : Gh} {rnd b : Option Nat} (h : RN G rnd b) (hl : G.le G') : RN G' rnd b := by
  cases rnd with
  | none => exact h
  | some loc => obtain ⟨r, h1, h2⟩ := h; exact ⟨r, hl _ _ _ h1, h2⟩
theorem fen_fn (b : Option Nat) (f : FuncId) : (fen b).fn f := by cases b <;> trivial
theorem fen_depth (b : Option Nat) : (fen b).depth = none := by cases b <;> rfl
theorem fen_round (b : Option Nat) : (fen b).round = b := by cases b <;> rfl
theorem fen_callsIn {P : Program} {b : Option Nat} {n : Nat} {f : FuncId} {args : Array Value} {w : World} {R : Ending → World → Prop} (h : Calls P f args w R) : CallsIn (fen b) n P f args w R := by
  cases b with
  | none => exact callsIn_wide.2 h
  | some b => exact (callsIn_wide.2 h : CallsIn Fence.wide n P f args w R)
theorem fen_roundIn {P : Program} {b : Option Nat} {n l : Nat} {f : FuncId} {tmps : Array Value} {asg body : Code} {w : World} {R : Ending → World → Prop} (h : RoundIn Fence.wide n P l f tmps asg body w R) : RoundIn (fen b) n P l f tmps asg body w R := by
  cases b with
  | none => exact h
  | some b => exact h

def ExOK (G : Gh) (e : Ex) (env : Arr AV) (mk : List Dfd) (x : Exit) (a : Act) : Prop :=
  match e with
  | .normal => x = .normal ∧ AR G env mk a
  | .ret => x = .ret ∧ AR G env mk a
  | .exit id => x = .exit id ∧ AR G env mk a
  | .panic v => ∃ u, V G v u ∧ x = .panic [{ v := u, recovered := false }] ∧ AR G env mk a
def PostR (G : Gh) (B : Nat) (w : World) (e : Ex) (st : St) (x : Exit) (a : Act) (w' : World) : Prop := ∃ G', Step G G' B st.h w w' ∧ ExOK G' e st.env st.dl x a

def RunOK (P : Program) (B : Nat) (W0 : World) (run : Code → St → Option (Ex × St)) : Prop :=
  ∀ c st e st', run c st = some (e, st') → ∀ (G : Gh) (a : Act) (w : World) (b : Option Nat), AR G st.env st.dl a → HR G B st.h w → Glob P B W0 G w → RN G st.rnd b → c.wpIn (fen b) 0 P (PostR G B w e st') a w
def CROK (G : Gh) (B : Nat) (w : World) (r : CR) (e : Ending) (w' : World) : Prop :=
  match r with
  | .ret v h' => ∃ G', Step G G' B h' w w' ∧ ∃ u, V G' v u ∧ e = .returned u
  | .pan v h' => ∃ G', Step G G' B h' w w' ∧ ∃ u, V G' v u ∧ e = .panicked [{ v := u, recovered := false }]
def CallR (P : Program) (B : Nat) (W0 : World) (f : FuncId) (args : List AV) (h : Heap) (r : CR) : Prop :=
  ∀ (G : Gh) (us : List Value) (w : World), VL G args us → HR G B h w → Glob P B W0 G w →
    (Calls P f us.toArray w (CROK G B w r) ∧ Enters P f) ∨ ∃ v h' u w' G', r = .ret v h' ∧ (callFunc f us.toArray).run P w = .ok (.value u) w' ∧ Step G G' B h' w w' ∧ V G' v u
/-- A round of a loop. -/
def RoundR (P : Program) (B : Nat) (W0 : World) (loc : Nat) (args : List AV) (h : Heap) (r : CR) : Prop :=
  ∀ (G : Gh) (us : List Value) (w : World) (rv : Ver), VL G args us → HR G B h w → Glob P B W0 G w → G.at loc 0 = some rv →
    ∃ L : Loop, w.heap[rv.b]? = some (.loop L) ∧ us.length = L.params.size ∧ RoundIn Fence.wide 0 P rv.b L.fn ((L.params.zip us.toArray).foldl (fun tmps (t, a) => tmps.setIfInBounds t a) L.tmps) L.assign L.body w (CROK G B w r)
def CallOK (P : Program) (B : Nat) (W0 : World) (call : Cal → List AV → Heap → Option CR) : Prop := ∀ c args h r, call c args h = some r → match c with
  | .f f => CallR P B W0 f args h r
  | .y loc => RoundR P B W0 loc args h r
def HooksOK (P : Program) (B : Nat) (W0 : World) (hk : Hooks) : Prop := ∀ f g, hk f = some g → ∀ args h r, g args h = some r → CallR P B W0 f args h r

section
variable {P : Program} {B : Nat} {W0 : World}

theorem mev_sound {G : Gh} {env : Arr AV} {mk : List Dfd} {h : Heap} {a : Act} {w : World} (ha : AR G env mk a) (hr : HR G B h w) (hg : Glob P B W0 G w) : ∀ x v, mev P env h x = some v → V G v (a.eval x) := by
  intro x v hv
  cases x with
  | tmp t =>
    obtain ⟨u, h1, h2⟩ := ha.get hv
    rw [Array.getElem?_toList] at h1
    simp only [Act.eval, Array.getD_eq_getD_getElem?, h1]
    exact h2
  | const c => exact ofConst_sound G hv
  | global g =>
    simp only [mev] at hv
    split at hv
    · rename_i hlt
      obtain ⟨r, h1, h2, h3, h3s⟩ := hg.g g hlt
      have key : ∀ lim, lim ≤ r.top → V G (.ptr g 0 0 lim) (a.eval (.global g)) := by
        intro lim hl
        have := V.ptr (G := G) (loc := g) (off := 0) (ver := 0) (lim := lim) (r := r) h1 (by omega) hl
        rw [h2, h3, h3s] at this
        exact this
      split at hv
      · rename_i cells minv frz ro tt hb
        cases hv
        obtain ⟨b, vs, hb', hg', hv', hR⟩ := hr.get h1
        rw [hb] at hb'; cases hb'
        rcases hR with rfl | hR
        · simp at hv'
        · exact key _ (Nat.le_of_eq (hR.tip r hv').1.symm)
      · rename_i cells hb
        cases hv
        obtain ⟨b, vs, hb', hg', hv', hR⟩ := hr.get h1
        rw [hb] at hb'; cases hb'
        rcases hR with rfl | ⟨r0, rfl, hl, ht, _⟩
        · simp at hv'
        · simp at hv'
          subst hv'
          exact key _ (by omega)
      · cases hv; exact key 0 (Nat.zero_le _)
      · cases hv
    · cases hv
  | func f => cases hv; exact .fn f .nil .nil

theorem put_sound {G : Gh} {env env' : Arr AV} {mk : List Dfd} {a : Act} {d : Option Nat} {v : AV} {u : Value} (ha : AR G env mk a) (hs : setT env d v = some env') (hv : V G v u) : AR G env' mk (a.put d u) := by
  cases d with
  | none => cases hs; exact ha
  | some d =>
    simp only [setT] at hs
    split at hs
    · rename_i hd
      cases hs
      refine ⟨ha.defers, ?_⟩
      simp only [Act.put, Array.toList_setIfInBounds]
      refine VL.of_get (by rw [Arr.toL_length, Arr.length_set, List.length_set, Array.length_toList]; exact ha.size) fun i x y hx hy => ?_
      rw [Arr.get_toL, Arr.get_set] at hx
      rw [List.getElem?_set] at hy
      split at hx
      · rename_i hid
        rw [if_pos hid] at hy
        cases hx
        split at hy
        · cases hy; exact hv
        · cases hy
      · rename_i hid
        rw [if_neg hid] at hy
        obtain ⟨y', h1, h2⟩ := ha.get hx
        rw [h1] at hy; cases hy; exact h2
    · cases hs

theorem want_sound {G : Gh} {env : Arr AV} {mk : List Dfd} {a : Act} {ops : Array Oper} {o : Oper} (ha : AR G env mk a) : Region.wanted o (yielded ops a.tmps) = want ops o env := by
  have key : ∀ j, yielded ops a.tmps j = yl ops env j := by
    intro j
    unfold yielded yl
    cases ops[j]? with
    | none => rfl
    | some q =>
      simp only [Option.bind_some]
      cases q.dst with
      | none => rfl
      | some t =>
        simp only [Option.bind_some]
        cases hx : env[t]? with
        | none =>
          have : a.tmps[t]? = none := by
            have hl := ha.size
            have := Arr.get_none hx
            exact Array.getElem?_eq_none (by omega)
          rw [this]; rfl
        | some x =>
          obtain ⟨u, h1, h2⟩ := ha.get hx
          rw [Array.getElem?_toList] at h1
          rw [h1]
          cases h2 <;> rfl
  unfold Region.wanted want
  cases o.guard with
  | none => rfl
  | some p => obtain ⟨j, b⟩ := p; simp only [key]

/-- One operation. -/
theorem mexec_sound {call : Cal → List AV → Heap → Option CR} (hcall : CallOK P B W0 call) {G : Gh} {env : Arr AV} {mk : List Dfd} {rnd b : Option Nat} {h : Heap} {a : Act} {w : World} {o : Oper} {r : OR} (ha : AR G env mk a) (hr : HR G B h w) (hg : Glob P B W0 G w) (hb : RN G rnd b)
    (he : mexec P call o env h mk rnd = some r) {K : Act → World → Prop} {Q : Exit → Act → World → Prop}
    (hok : ∀ env' h' mk' G' a' w', r = .ok env' h' mk' → Step G G' B h' w w' → AR G' env' mk' a' → K a' w')
    (hpan : ∀ v h' G' u w', r = .pan v env h' mk → Step G G' B h' w w' → V G' v u → Q (.panic [{ v := u, recovered := false }]) a w') : o.wpIn (fen b) 0 P a w K Q := by
  obtain ⟨dst, op, ty, pos, after, guard⟩ := o
  have hev := mev_sound ha hr hg
  unfold Oper.wpIn
  refine ⟨fun f _ => fen_fn b f, ?_⟩
  have main : ∀ {q : Rs}, mop P (mev P env h) h op = some q → mdone call dst env h mk rnd q = some r → Oper.uponIn (fen b) 0 P ⟨dst, op, ty, pos, after, guard⟩ a K Q ((Oper.semAt (fen b).round a.eval ⟨dst, op, ty, pos, after, guard⟩).run P w) := by
    intro q hq hres
    have hs := mop_sound hr hev hq
    have hsem : (∀ f args cap, q ≠ .dfr f args cap) → Oper.semAt (fen b).round a.eval ⟨dst, op, ty, pos, after, guard⟩ = execOp a.eval ⟨dst, op, ty, pos, after, guard⟩ := by
      intro hnd
      refine Oper.semAt_eq _ _ _ fun c hc => ?_
      simp only at hc
      subst hc
      simp only [mop] at hq
      split at hq
      · split at hq
        · cases hq; exact hnd _ _ _ rfl
        · cases hq
      · cases hq
    unfold mdone at hres
    cases q with
    | val v h' =>
      rw [hsem (fun _ _ _ e => by cases e)]
      obtain ⟨w', u, G', hrun, hS, hV⟩ := hs
      rw [hrun, Oper.uponIn_value]
      simp only [setO] at hres
      split at hres
      · rename_i env' hset
        cases hres
        exact hok _ _ _ G' _ _ rfl hS (put_sound (ha.le hS.le) hset hV)
      · cases hres
    | unit h' =>
      rw [hsem (fun _ _ _ e => by cases e)]
      obtain ⟨w', G', hrun, hS⟩ := hs
      rw [hrun, Oper.uponIn_skip]
      simp only [setO] at hres
      split at hres
      · rename_i env' hset
        cases hres
        exact hok _ _ _ G' _ _ rfl hS (put_sound (ha.le hS.le) hset (.tup .nil))
      · cases hres
    | dfr f args cap =>
      obtain ⟨us, vc, h1, h2, hrun⟩ := hs
      simp only at hres
      cases rnd with
      | some _ => cases hres
      | none =>
        obtain rfl : b = none := hb
        rw [fen_round, Oper.semAt_none, hrun, Oper.uponIn_defer]
        simp only [setO] at hres
        split at hres
        · rename_i env' hset
          cases hres
          exact hok _ _ _ G _ _ rfl (.refl hr) (put_sound ⟨⟨us, vc, _, h1, h2, rfl, ha.defers⟩, ha.env⟩ hset (.tup .nil))
        · cases hres
    | call f args =>
      rw [hsem (fun _ _ _ e => by cases e)]
      simp only at hres
      cases hc : call f args h with
      | none => rw [hc] at hres; cases hres
      | some cr =>
        rw [hc] at hres
        have fin : ∀ e w', CROK G B w cr e w' → match e with
            | .returned v => K (a.put dst v) w'
            | .panicked chain => Q (.panic chain) a w'
            | .outgrown => LetsOut Q := by
          intro e w' hcr
          cases cr with
          | ret v h' =>
            obtain ⟨G', hS, u, hv, rfl⟩ := hcr
            simp only [setO] at hres
            simp only
            split at hres
            · rename_i env' hset
              cases hres
              exact hok _ _ _ G' _ _ rfl hS (put_sound (ha.le hS.le) hset hv)
            · cases hres
          | pan v h' =>
            obtain ⟨G', hS, u, hv, rfl⟩ := hcr
            simp only at hres ⊢
            cases hres
            exact hpan _ _ G' u _ rfl hS hv
        cases f with
        | f f =>
          obtain ⟨us, hV, hrun⟩ := hs
          rcases hcall (.f f) args h cr hc G us w hV hr hg with ⟨hC, hE⟩ | ⟨v, h', u, w', G', rfl, hv, hS, hV'⟩
          · rw [hrun, hE, Oper.uponIn_enter]
            exact ⟨(fun e => by rw [fen_depth] at e; cases e), fen_callsIn (hC.mono fun e w' hcr => by have q := fin e w' hcr; cases e <;> exact q)⟩
          · rw [hrun, hv, Oper.uponIn_value]
            exact fin (.returned u) w' ⟨G', hS, u, hV', rfl⟩
        | y loc =>
          obtain ⟨us, rv, hV, hat, hrun⟩ := hs
          obtain ⟨L, h1, h2, h3⟩ := hcall (.y loc) args h cr hc G us w rv hV hr hg hat
          rw [hrun, run_yield h1 (by simpa using h2), Oper.uponIn_round]
          exact ⟨(fun e => by rw [fen_depth] at e; cases e), fen_roundIn (h3.mono fun e w' hcr => by have q := fin e w' hcr; cases e <;> exact q)⟩
  unfold mexec at he
  cases hp : panicOp op with
  | some x =>
    simp only [hp] at he
    obtain rfl : op = .panic x := by cases op <;> simp [panicOp] at hp; subst hp; rfl
    split at he
    · rename_i t v hx
      cases he
      have hV := hev _ _ hx
      generalize hu : a.eval x = u at hV
      cases hV with
      | @ifc _ _ u' hv =>
        have hrun : (execOp a.eval ⟨dst, .panic x, ty, pos, after, guard⟩).run P w = .halt (.panic (.iface t u')) w := by
          simp [execOp, hu, Instr.panic]
        rw [Oper.semAt_eq _ _ _ (fun c hc => by cases hc), hrun, Oper.uponIn_panic]
        exact hpan _ _ G _ _ rfl (.refl hr) (.ifc t hv)
    · cases he
  | none =>
    simp only [hp] at he
    split at he
    · rename_i q hq; exact main hq he
    · cases he

theorem mops_sound {call : Cal → List AV → Heap → Option CR} (hcall : CallOK P B W0 call) {ops : Array Oper} {rnd b : Option Nat} {Q : Exit → Act → World → Prop} : ∀ {l : List Oper} {G : Gh} {env : Arr AV} {mk : List Dfd} {h : Heap} {a : Act} {w : World} {r : OR}, AR G env mk a → HR G B h w → Glob P B W0 G w → RN G rnd b →
    mops P call ops rnd l env h mk = some r →
    (∀ env' h' mk' G' a' w', r = .ok env' h' mk' → Step G G' B h' w w' → AR G' env' mk' a' → Q .normal a' w') →
    (∀ v env' h' mk' G' u a' w', r = .pan v env' h' mk' → Step G G' B h' w w' → V G' v u → AR G' env' mk' a' → Q (.panic [{ v := u, recovered := false }]) a' w') → wpListIn (fen b) 0 P ops Q l a w
  | [], G, env, mk, h, a, w, r, ha, hr, hg, hb, he, hok, hpan => by
    cases he
    exact hok _ _ _ G _ _ rfl (.refl hr) ha
  | o :: l, G, env, mk, h, a, w, r, ha, hr, hg, hb, he, hok, hpan => by
    unfold mops at he
    unfold wpListIn
    rw [want_sound ha]
    cases hw : want ops o env with
    | true =>
      rw [hw] at he
      rw [if_pos rfl]
      simp only at he
      cases hx : mexec P call o env h mk rnd with
      | none => rw [hx] at he; cases he
      | some q =>
        rw [hx] at he
        refine mexec_sound hcall ha hr hg hb hx (fun env' h' mk' G' a' w' hq hS hA => ?_) (fun v h' G' u w' hq hS hV => ?_)
        · subst hq
          exact mops_sound hcall hA hS.hr (hg.step hr hS) (hb.le hS.le) he (fun env2 h2 mk2 G2 a2 w2 e2 S2 A2 => hok _ _ _ _ _ _ e2 (hS.trans S2) A2) (fun v2 env2 h2 mk2 G2 u2 a2 w2 e2 S2 V2 D2 => hpan _ _ _ _ _ _ _ _ e2 (hS.trans S2) V2 D2)
        · subst hq
          cases he
          exact hpan _ _ _ _ _ _ _ _ rfl hS hV (ha.le hS.le)
    | false =>
      rw [hw] at he
      rw [if_neg (by simp)]
      refine ⟨fun f _ => fen_fn b f, ?_⟩
      simp only at he
      split at he
      · rename_i env' hs
        exact mops_sound hcall (put_sound ha hs (.tup .nil)) hr hg hb he hok hpan
      · cases he

end
end Go.Mx
