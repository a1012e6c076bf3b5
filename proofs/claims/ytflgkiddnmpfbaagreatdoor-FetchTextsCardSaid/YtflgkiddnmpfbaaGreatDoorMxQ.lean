/- The machine M: code, calls; sound. -/
import Derived.Test.YtflgkiddnmpfbaaGreatDoorMxP
import Derived.RecoverIn
set_option linter.unusedVariables false
set_option linter.unusedSimpArgs false
namespace Go.Mx
open Go Go.Gx

/-- On behind a loop over a function: nothing, or the jump that a round has left. -/
def mjump (p : Option Code) (st : St) : Option (Ex × St) := match p with
  | none => some (.normal, st)
  | some .ret => some (.ret, st)
  | some (.exit id) => some (.exit id, st)
  | _ => none
def mrangeEnd (l : Nat) (env : Arr AV) (dl : List Dfd) (rnd : Option Nat) : Option CR → Option (Ex × St)
  | some (.ret _ h2) => match h2[l]? with
    | some (.loop e2 ps asg body s p) => match s with
      | .busy => none
      | _ => mjump p ⟨env, h2.set l (.loop e2 ps asg body .exhausted p), dl, rnd⟩
    | _ => none
  | some (.pan v h2) => some (.panic v, ⟨env, h2, dl, rnd⟩)
  | none => none
def mrange (P : Program) (call : Cal → List AV → Heap → Option CR) (g : Operand) (ps : Array Tmp) (asg body : Code) (st : St) : Option (Ex × St) :=
  match mev P st.env st.h g with
  | some (.fn f first cap) => if ((P.funcs[f]?).bind (·.body)).isSome = true then match st.rnd with
    | none => mrangeEnd (st.h.length + 1) st.env (.mark st.h.length :: st.dl) none (call (.f f) (first ++ [.yld (st.h.length + 1)] ++ cap) (st.h ++ [Blk.dfr] ++ [Blk.loop st.env ps asg body .ready none]))
    | some lo => match st.h[lo]? with
      | some (.loop ..) => mrangeEnd st.h.length st.env st.dl (some lo) (call (.f f) (first ++ [.yld st.h.length] ++ cap) (st.h ++ [Blk.loop st.env ps asg body .ready none]))
      | _ => none
    else none
  | _ => none
def mcode (P : Program) (run : Code → St → Option (Ex × St)) (call : Cal → List AV → Heap → Option CR) : Code → St → Option (Ex × St)
  | .skip, st => some (.normal, st)
  | .label _, st => some (.normal, st)
  | .ret, st => some (.ret, st)
  | .exit id, st => some (.exit id, st)
  | .region _ ops false, st => ofOR st.rnd (mops P call ops st.rnd ops.toList st.env st.h st.dl)
  | .region _ ops true, st => ofOR st.rnd (mdrawn P call ops.toList st.env st.h st.dl)
  | .seq a b, st => match run a st with
    | some (.normal, st') => run b st'
    | r => r
  | .cond c a b, st => match mev P st.env st.h c with
    | some (.bool true) => run a st
    | some (.bool false) => run b st
    | _ => none
  | .block id c, st => match run c st with
    | some (.exit id', st') => if id' = id then some (.normal, st') else some (.exit id', st')
    | r => r
  | .loop c, st => match run c st with
    | some (.normal, st') => run (.loop c) st'
    | r => r
  | .rangeFunc g ps asg body, st => mrange P call g ps asg body st
  | _, _ => none

def mres (P : Program) (env : Arr AV) (h : Heap) : List ResultVar → Option (List AV)
  | [] => some []
  | .tmp t :: l => match env[t]?, mres P env h l with
    | some v, some vs => some (v :: vs)
    | _, _ => none
  | .cell a T :: l => match env[a]?, mres P env h l with
    | some (.ptr loc off ver lim), some vs => match aggT P T, szOf P T with
      | some true, some n => match rd h loc off ver lim n with | some cs => some (.agg cs :: vs) | none => none
      | some false, _ => match rd h loc off ver lim 1 with | some [v] => some (v :: vs) | _ => none
      | _, _ => none
    | _, _ => none
def oneAV : List AV → AV
  | [v] => v
  | vs => .tup vs
/-- The body of a function, from its beginning. -/
def mstart (run : Code → St → Option (Ex × St)) (fn : Func) (args : List AV) (h : Heap) : Option (Ex × St) :=
  match fn.body with
  | some c => if args.length ≤ fn.ntmps then run c ⟨Arr.of (args ++ List.replicate (fn.ntmps - args.length) .undef), h, [], none⟩ else none
  | none => none
/-- How a function is being left: it returns, it panics, its panic is recovered. -/
inductive Pn where
  | no | up (v : AV) | re (v : AV)
def Pn.settle : Pn → Pn
  | .re _ => .no
  | p => p
def Pn.got : Pn → AV
  | .up v => v
  | _ => .nili
def Pn.caught : Pn → Pn
  | .up v => .re v
  | p => p
def isRec (o : Oper) : Bool := match o.op, o.guard with
  | .call c, none => match c.callee with
    | .builtin .recover => true
    | _ => false
  | _, _ => false
def withPn (pn : Pn) : Option (Ex × St) → Option (Ex × St × Pn)
  | some (e, st) => some (e, st, pn)
  | none => none
/-- The code of a deferred call: recover stands alone in its region. -/
def mdc (run : Code → St → Option (Ex × St)) : Code → St → Pn → Option (Ex × St × Pn)
  | .seq a b, st, pn => match mdc run a st pn with
    | some (.normal, st', pn') => mdc run b st' pn'
    | r => r
  | .region id ops false, st, pn => match ops.toList with
    | [o] => match isRec o with
      | true => match setT st.env o.dst pn.got with
        | some env' => some (.normal, ⟨env', st.h, st.dl, st.rnd⟩, pn.caught)
        | none => none
      | false => withPn pn (run (.region id ops false) st)
    | _ => withPn pn (run (.region id ops false) st)
  | c, st, pn => withPn pn (run c st)
/-- A deferred call: of a function that defers nothing, and does not panic. -/
def mdcall (P : Program) (run : Code → St → Option (Ex × St)) (f : FuncId) (args : List AV) (h : Heap) (pn : Pn) : Option (Heap × Pn) :=
  match P.funcs[f]? with
  | some fn => match fn.body with
    | some c => if args.length ≤ fn.ntmps then match mdc run c ⟨Arr.of (args ++ List.replicate (fn.ntmps - args.length) .undef), h, [], none⟩ pn with
      | some (.normal, st, pn') => match st.dl, mres P st.env st.h fn.results.toList with | [], some _ => some (st.h, pn') | _, _ => none
      | some (.ret, st, pn') => match st.dl, mres P st.env st.h fn.results.toList with | [], some _ => some (st.h, pn') | _, _ => none
      | _ => none
      else none
    | none => none
  | none => none
def mleave (dcall : FuncId → List AV → Heap → Pn → Option (Heap × Pn)) : List Dfd → Heap → Pn → Option (Heap × Pn)
  | [], h, pn => some (h, pn)
  | .mark loc :: l, h, pn => match h[loc]? with
    | some .dfr => mleave dcall l (h.set loc .gone) pn
    | _ => none
  | .call f args cap :: l, h, pn => match dcall f (args ++ cap) h pn with
    | some (h', pn') => mleave dcall l h' pn'.settle
    | none => none
def mend (P : Program) (fn : Func) (env : Arr AV) : Option (Heap × Pn) → Option CR
  | some (h, .no) => match mres P env h fn.results.toList with
    | some vs => some (.ret (oneAV vs) h)
    | none => none
  | some (h, .up v) => some (.pan v h)
  | _ => none
def mbody (P : Program) (run : Code → St → Option (Ex × St)) (f : FuncId) (args : List AV) (h : Heap) : Option CR :=
  match P.funcs[f]? with
  | some fn => match mstart run fn args h with
    | some (.normal, st) => mend P fn st.env (mleave (mdcall P run) st.dl st.h .no)
    | some (.ret, st) => mend P fn st.env (mleave (mdcall P run) st.dl st.h .no)
    | some (.panic v, st) => mend P fn st.env (mleave (mdcall P run) st.dl st.h (.up v))
    | _ => none
  | none => none
/-- A round of a loop over a function. -/
def mendRound (loc : Nat) (h : Heap) (e : Ex) : Option CR := match h[loc]? with
  | some (.loop env ps asg body _ _) => match e with
    | .normal => some (.ret (.bool true) (h.set loc (.loop env ps asg body .ready none)))
    | .ret => some (.ret (.bool false) (h.set loc (.loop env ps asg body .done (some .ret))))
    | .exit id => some (.ret (.bool false) (h.set loc (.loop env ps asg body .done (some (.exit id)))))
    | .panic _ => none
  | _ => none
def mbusy (run : Code → St → Option (Ex × St)) (loc : Nat) (body : Code) (st : St) : Option CR := match st.h[loc]? with
  | some (.loop e2 p2 a2 b2 .ready pd) => match run body ⟨st.env, st.h.set loc (.loop e2 p2 a2 b2 .busy pd), st.dl, some loc⟩ with
    | some (e, st2) => mendRound loc st2.h e
    | none => none
  | _ => none
def mround (run : Code → St → Option (Ex × St)) (loc : Nat) (args : List AV) (h : Heap) : Option CR := match h[loc]? with
  | some (.loop env ps asg body _ _) => if args.length = ps.size then
      match run asg ⟨(ps.toList.zip args).foldl (fun e p => e.set p.1 p.2) env, h, [], some loc⟩ with
      | some (.normal, st) => mbusy run loc body st
      | _ => none
    else none
  | _ => none
def mcall (P : Program) (hk : Hooks) (run : Code → St → Option (Ex × St)) (c : Cal) (args : List AV) (h : Heap) : Option CR :=
  match c with
  | .f f => match hk f with
    | some g => g args h
    | none => mbody P run f args h
  | .y loc => mround run loc args h
def mrun (P : Program) (hk : Hooks) : Nat → Code → St → Option (Ex × St)
  | 0, _, _ => none
  | n + 1, c, st => mcode P (mrun P hk n) (mcall P hk (mrun P hk n)) c st

def NoNG (P : Program) : Prop := ∀ (f : Nat) (fn : Func), P.funcs[f]? = some fn → (fn.name == "runtime.NumGoroutine") = false
theorem enters_of {P : Program} (hng : NoNG P) {f : FuncId} (h : ((P.funcs[f]?).bind (·.body)).isSome = true) : Enters P f := by
  cases hf : P.funcs[f]? with
  | none => rw [hf] at h; cases h
  | some fn =>
    rw [hf] at h
    cases hb : fn.body with
    | none => simp [hb] at h
    | some c => exact Enters.mk hf (hng f fn hf) (by rw [hb]; rfl)
section
variable {P : Program} {B : Nat} {W0 : World}

/-- A block of M's own is turned in place. -/
theorem Step.turn {G : Gh} {h : Heap} {w : World} {loc : Nat} {blk blk' : Blk} {r : Ver} {o : Obj} (hr : HR G B h w) (hl : h[loc]? = some blk) (hg : G[loc]? = some [r]) (ho : blk.own = true) (ho' : blk'.own = true)
    (hB : BlkR G (w.putObj r.b o) blk' [r]) : Step G G B (h.set loc blk') w (w.putObj r.b o) := by
  have hset : G.set loc [r] = G := set_same hg
  have := Step.upd (vs' := [r]) (w' := w.putObj r.b o) (blk' := blk') hr hl hg ho ho' ⟨0, r, rfl, rfl⟩ (Nat.le_of_eq World.putObj_size.symm) (fun k _ hk => World.putObj_heap_other hk) rfl rfl rfl (fun v r' h => h) (fun v r' h => .inr ⟨v, r', h, rfl⟩) (fun _ => by rw [hset]; exact hB)
  rwa [hset] at this
theorem loop_rec {G : Gh} {h : Heap} {w : World} {loc : Nat} {env : Arr AV} {ps : Array Tmp} {asg body : Code} {s : LoopState} {p : Option Code} {r : Ver} (hr : HR G B h w) (hl : h[loc]? = some (.loop env ps asg body s p)) (hat : G.at loc 0 = some r) :
    G[loc]? = some [r] ∧ r.b < w.heap.size ∧ ∃ L : Loop, w.heap[r.b]? = some (.loop L) ∧ L.state = s ∧ L.pending = p ∧ L.params = ps ∧ L.assign = asg ∧ L.body = body ∧ VL G env.toL L.tmps.toList := by
  obtain ⟨b, vs, hb, hg, hv, hR⟩ := hr.get hat
  rw [hl] at hb; cases hb
  rcases hR with rfl | ⟨r0, rfl, L, h1⟩
  · simp at hv
  · simp at hv; subst hv
    exact ⟨hg, hr.lt _ _ _ hat, L, h1⟩
theorem loop_turn {G : Gh} {h : Heap} {w : World} {loc : Nat} {env : Arr AV} {ps : Array Tmp} {asg body : Code} {s : LoopState} {p : Option Code} {r : Ver} (hr : HR G B h w) (hl : h[loc]? = some (.loop env ps asg body s p)) (hat : G.at loc 0 = some r) (s' : LoopState) (p' : Option Code) {L : Loop} (hL : w.heap[r.b]? = some (.loop L)) :
    Step G G B (h.set loc (.loop env ps asg body s' p')) w (w.putObj r.b (.loop { L with state := s', pending := p' })) := by
  obtain ⟨hg, hlt, L', h1, h2, h3, h4, h5, h6, h7⟩ := loop_rec hr hl hat
  rw [hL] at h1; cases h1
  exact Step.turn hr hl hg rfl rfl (.inr ⟨r, rfl, _, World.putObj_heap_same hlt, rfl, rfl, h4, h5, h6, h7⟩)

theorem PostR.trans {G G' : Gh} {w w' : World} {h' : Heap} {e : Ex} {st : St} {x : Exit} {a : Act} {w'' : World} (hS : Step G G' B h' w w') (h : PostR G' B w' e st x a w'') : PostR G B w e st x a w'' := by
  obtain ⟨G2, S2, hx⟩ := h
  exact ⟨G2, hS.trans S2, hx⟩
theorem roundsIn_mono {F : Fence} {m : Nat} {c : Code} {Q Q' : Exit → Act → World → Prop} (hq : ∀ x a w, Q x a w → Q' x a w) : ∀ {n : Nat} {a : Act} {w : World}, Code.roundsIn F m P c Q n a w → Code.roundsIn F m P c Q' n a w
  | 0, _, _, h => h
  | n + 1, a, w, h => by
    rw [roundsIn_succ] at h ⊢
    refine Go.wpIn_mono h fun x a w hx => ?_
    cases x with
    | normal => exact roundsIn_mono hq hx
    | _ => exact hq _ _ _ hx
def LoopOK (P : Program) (B : Nat) (W0 : World) (run : Code → St → Option (Ex × St)) (n : Nat) : Prop :=
  ∀ c st e st', run (.loop c) st = some (e, st') → ∀ (G : Gh) (a : Act) (w : World) (b : Option Nat), AR G st.env st.dl a → HR G B st.h w → Glob P B W0 G w → RN G st.rnd b → Code.roundsIn (fen b) 0 P c (PostR G B w e st') n a w
/-- A run leaves the round as it is. -/
def RndOK (run : Code → St → Option (Ex × St)) : Prop := ∀ c st e st', run c st = some (e, st') → st'.rnd = st.rnd
theorem loop_step {run : Code → St → Option (Ex × St)} (hrun : RunOK P B W0 run) (hrnd : RndOK run) {n : Nat} (hloop : LoopOK P B W0 run n) {c : Code} {st st' : St} {e : Ex} (hc : (match run c st with | some (.normal, st') => run (.loop c) st' | r => r) = some (e, st'))
    {G : Gh} {a : Act} {w : World} {b : Option Nat} (ha : AR G st.env st.dl a) (hr : HR G B st.h w) (hg : Glob P B W0 G w) (hb : RN G st.rnd b) : Code.roundsIn (fen b) 0 P c (PostR G B w e st') (n + 1) a w := by
  rw [roundsIn_succ]
  cases h1 : run c st with
  | none => rw [h1] at hc; cases hc
  | some p =>
    obtain ⟨e1, st1⟩ := p
    rw [h1] at hc
    refine Go.wpIn_mono (hrun c st e1 st1 h1 G a w b ha hr hg hb) fun ex a1 w1 hp => ?_
    obtain ⟨G1, S1, hx⟩ := hp
    cases e1 with
    | normal =>
      obtain ⟨rfl, hA⟩ := hx
      exact roundsIn_mono (fun _ _ _ h => PostR.trans S1 h) (hloop c st1 e st' hc G1 a1 w1 b hA S1.hr (hg.step hr S1) (by rw [hrnd _ _ _ _ h1]; exact hb.le S1.le))
    | ret => cases hc; obtain ⟨rfl, hA⟩ := hx; exact ⟨G1, S1, rfl, hA⟩
    | exit id => cases hc; obtain ⟨rfl, hA⟩ := hx; exact ⟨G1, S1, rfl, hA⟩
    | panic v => cases hc; obtain ⟨u, hu, rfl, hA⟩ := hx; exact ⟨G1, S1, u, hu, rfl, hA⟩

theorem mjump_rnd {p : Option Code} {st st' : St} {e : Ex} (h : mjump p st = some (e, st')) : st' = st := by
  unfold mjump at h
  split at h <;> cases h <;> rfl
theorem mrangeEnd_rnd {l : Nat} {env : Arr AV} {dl : List Dfd} {rnd : Option Nat} {r : Option CR} {e : Ex} {st' : St} (h : mrangeEnd l env dl rnd r = some (e, st')) : st'.rnd = rnd := by
  unfold mrangeEnd at h
  split at h
  · split at h
    · split at h
      · cases h
      · rw [mjump_rnd h]
    · cases h
  · cases h; rfl
  · cases h
theorem mcode_rnd {run : Code → St → Option (Ex × St)} (hrun : RndOK run) {call : Cal → List AV → Heap → Option CR} : RndOK (mcode P run call) := by
  intro c st e st' hc
  have hof : ∀ {o : Option OR}, ofOR st.rnd o = some (e, st') → st'.rnd = st.rnd := by
    intro o ho
    unfold ofOR at ho
    split at ho <;> cases ho <;> rfl
  cases c with
  | skip => cases hc; rfl
  | label l => cases hc; rfl
  | ret => cases hc; rfl
  | exit id => cases hc; rfl
  | region id ops draw => cases draw <;> exact hof hc
  | seq x y =>
    simp only [mcode] at hc
    cases h1 : run x st with
    | none => rw [h1] at hc; cases hc
    | some p =>
      obtain ⟨e1, st1⟩ := p
      rw [h1] at hc
      have := hrun _ _ _ _ h1
      cases e1 with
      | normal => exact (hrun _ _ _ _ hc).trans this
      | _ => cases hc; exact this
  | cond c x y =>
    simp only [mcode] at hc
    split at hc
    · exact hrun _ _ _ _ hc
    · exact hrun _ _ _ _ hc
    · cases hc
  | block id c =>
    simp only [mcode] at hc
    cases h1 : run c st with
    | none => rw [h1] at hc; cases hc
    | some p =>
      obtain ⟨e1, st1⟩ := p
      rw [h1] at hc
      have := hrun _ _ _ _ h1
      cases e1 with
      | exit id' =>
        simp only at hc
        split at hc <;> cases hc <;> exact this
      | _ => cases hc; exact this
  | loop c =>
    simp only [mcode] at hc
    cases h1 : run c st with
    | none => rw [h1] at hc; cases hc
    | some p =>
      obtain ⟨e1, st1⟩ := p
      rw [h1] at hc
      have := hrun _ _ _ _ h1
      cases e1 with
      | normal => exact (hrun _ _ _ _ hc).trans this
      | _ => cases hc; exact this
  | rangeFunc g ps asg body =>
    simp only [mcode, mrange] at hc
    split at hc
    · split at hc
      · split at hc
        · rename_i hn; rw [mrangeEnd_rnd hc, hn]
        · rename_i hn
          split at hc
          · rw [mrangeEnd_rnd hc, hn]
          · cases hc
      · cases hc
    · cases hc
  | _ => simp [mcode] at hc

/-- Behind the call of a loop's function. -/
theorem rangeEnd_sound {G G1 : Gh} {h1 : Heap} {w w1 : World} {l : Nat} {env : Arr AV} {dl : List Dfd} {rnd b : Option Nat} {cr : CR} {e : Ex} {st' : St} {rl : Ver} {a' : Act} (hS : Step G G1 B h1 w w1) (hat : G1.at l 0 = some rl)
    (he : mrangeEnd l env dl rnd (some cr) = some (e, st')) (hA : AR G1 env dl a') : ∀ en w2, CROK G1 B w1 cr en w2 → rangePost (fen b) 0 P rl.b (PostR G B w e st') a' en w2 := by
  intro en w2 hcr
  cases cr with
  | pan v h2 =>
    obtain ⟨G2, S2, u, hv, rfl⟩ := hcr
    cases he
    exact ⟨G2, hS.trans S2, u, hv, rfl, hA.le S2.le⟩
  | ret v h2 =>
    obtain ⟨G2, S2, u, hv, rfl⟩ := hcr
    simp only [mrangeEnd] at he
    split at he
    · rename_i e2 ps asg body s p hl
      have hat2 := S2.le _ _ _ hat
      obtain ⟨hg2, hlt2, L, q1, q2, q3, q4, q5, q6, q7⟩ := loop_rec S2.hr hl hat2
      have hb : L.state ≠ .busy := by
        intro hbb
        rw [hbb] at q2
        subst q2
        cases he
      have he' : mjump p ⟨env, h2.set l (.loop e2 ps asg body .exhausted p), dl, rnd⟩ = some (e, st') := by
        cases s <;> first | (cases he; done) | exact he
      have hT := loop_turn S2.hr hl hat2 .exhausted p q1
      have hrun := run_endLoop (P := P) q1 hb
      have hpe : ({ L with state := .exhausted } : Loop) = { L with state := .exhausted, pending := p } := by rw [← q3]
      refine ⟨L.pending, _, hrun, ?_⟩
      rw [hpe]
      have hS3 := (hS.trans S2).trans hT
      have hA3 : AR G2 env dl a' := hA.le S2.le
      rw [q3]
      unfold mjump at he'
      split at he'
      · cases he'; exact ⟨G2, hS3, rfl, hA3⟩
      · cases he'; exact wpIn_ret ⟨G2, hS3, rfl, hA3⟩
      · cases he'; exact wpIn_exit ⟨G2, hS3, rfl, hA3⟩
      · cases he'
    · cases he

theorem at_push_new {G : Gh} {vs : List Ver} : Gh.at (G ++ [vs]) G.length 0 = vs[0]? := by
  unfold Gh.at
  rw [List.getElem?_append_right (Nat.le_refl _)]
  simp

/-- A loop over a function. -/
theorem mrange_sound (hng : NoNG P) {call : Cal → List AV → Heap → Option CR} (hcall : CallOK P B W0 call) {g : Operand} {ps : Array Tmp} {asg body : Code} {st st' : St} {e : Ex} (he : mrange P call g ps asg body st = some (e, st'))
    {G : Gh} {a : Act} {w : World} {b : Option Nat} (ha : AR G st.env st.dl a) (hr : HR G B st.h w) (hg : Glob P B W0 G w) (hb : RN G st.rnd b) : (Code.rangeFunc g ps asg body).wpIn (fen b) 0 P (PostR G B w e st') a w := by
  unfold mrange at he
  split at he
  · rename_i f first cap hgv
    split at he
    · rename_i hbody
      have hE := enters_of hng hbody
      have hV := mev_sound ha hr hg _ _ hgv
      generalize hu : a.eval g = u at hV
      cases hV with
      | @fn _ _ _ vf vc hvf hvc =>
        -- the call, in whatever world
        have hres : ∀ (l : Nat) (w1 : World), (resolve a.eval (rangeCall g l) 0).run P w1 = .ok { target := .fn (.func f) vc.toArray, args := vf.toArray ++ #[Value.func (.yield l) #[] #[]] } w1 := by
          intro l w1
          have hcv : ∀ v, a.eval (.const v) = v := fun _ => rfl
          simp [resolve, rangeCall, hu, hcv, Deferred.ofValue]
        have hinv : ∀ (l : Nat) (w1 : World), (invoke (.fn (.func f) vc.toArray) (vf.toArray ++ #[Value.func (.yield l) #[] #[]])).run P w1 = .ok (.enter f (vf ++ [Value.func (.yield l) #[] #[]] ++ vc).toArray) w1 := by
          intro l w1
          have : (vf.toArray ++ #[Value.func (.yield l) #[] #[]] ++ vc.toArray) = (vf ++ [Value.func (.yield l) #[] #[]] ++ vc).toArray := by apply Array.ext'; simp
          simp only [invoke]
          rw [this]
          exact hE _ _
        have fin : ∀ {G1 : Gh} {h1 : Heap} {w1 : World} {l : Nat} {rl : Ver} {dl : List Dfd} {mark : List Deferred} {rnd : Option Nat} {fnid : FuncId}, Step G G1 B h1 w w1 → G1.at l 0 = some rl → MK G1 dl (mark ++ a.defers) →
            mrangeEnd l st.env dl rnd (call (.f f) (first ++ [.yld l] ++ cap) h1) = some (e, st') →
            CallsIn (fen b) 0 P f (vf ++ [Value.func (.yield rl.b) #[] #[]] ++ vc).toArray w1 (rangePost (fen b) 0 P rl.b (PostR G B w e st') { a with defers := mark ++ a.defers }) := by
          intro G1 h1 w1 l rl dl mark rnd fnid hS hat hmk hend
          cases hc : call (.f f) (first ++ [.yld l] ++ cap) h1 with
          | none => rw [hc] at hend; cases hend
          | some cr =>
            rw [hc] at hend
            have hVL : VL G1 (first ++ [.yld l] ++ cap) (vf ++ [Value.func (.yield rl.b) #[] #[]] ++ vc) := ((hvf.le hS.le).append (.cons (.yld hat) .nil)).append (hvc.le hS.le)
            have hpost := rangeEnd_sound (P := P) (b := b) (a' := { a with defers := mark ++ a.defers }) hS hat hend ⟨hmk, ha.env.le hS.le⟩
            rcases hcall (.f f) _ h1 cr hc G1 _ w1 hVL hS.hr (hg.step hr hS) with ⟨hC, _⟩ | ⟨v, h2, u2, w2, G2, _, hv, _⟩
            · exact fen_callsIn (hC.mono hpost)
            · rw [hE _ _] at hv; cases hv
        refine wpIn_rangeFunc fun fnid _ => ?_
        split at he
        · -- an outermost loop
          rename_i hn
          rw [hn] at hb
          obtain rfl : b = none := hb
          have S1 : Step G (G ++ [[⟨w.heap.size, 0, 0, 0, 0⟩]]) B (st.h ++ [Blk.dfr]) w (w.alloc (.deferred (some []))) :=
            Step.push hr rfl (by simp) (fun k hk => (Keep.alloc [] w _).block k hk (by simp)) rfl rfl rfl
              (fun v r hv => by
                cases v with
                | zero => simp at hv; subst hv; exact ⟨Nat.le_refl _, by simp⟩
                | succ v => simp at hv) (.inr ⟨_, rfl, World.alloc_heap_new w _⟩)
          have S2 : Step (G ++ [[⟨w.heap.size, 0, 0, 0, 0⟩]]) (G ++ [[⟨w.heap.size, 0, 0, 0, 0⟩]] ++ [[⟨w.heap.size + 1, 0, 0, 0, 0⟩]]) B (st.h ++ [Blk.dfr] ++ [Blk.loop st.env ps asg body .ready none]) (w.alloc (.deferred (some [])))
              ((w.alloc (.deferred (some []))).alloc (.loop { state := .ready, pending := none, fn := fnid, tmps := a.tmps, params := ps, assign := asg, body, defers := w.heap.size })) :=
            Step.push S1.hr rfl (by simp) (fun k hk => (Keep.alloc [] (w.alloc (.deferred (some []))) _).block k hk (by simp)) rfl rfl rfl
              (fun v r hv => by
                cases v with
                | zero => simp at hv; subst hv; exact ⟨by simp, by simp⟩
                | succ v => simp at hv) (.inr ⟨_, rfl, _, by
                  have := World.alloc_heap_new (w.alloc (.deferred (some []))) (.loop { state := .ready, pending := none, fn := fnid, tmps := a.tmps, params := ps, assign := asg, body, defers := w.heap.size })
                  simpa using this, rfl, rfl, rfl, rfl, rfl, (ha.env.le S1.le).le (Gh.le_push _ _)⟩)
          have hat1 : Gh.at (G ++ [[⟨w.heap.size, 0, 0, 0, 0⟩]] ++ [[⟨w.heap.size + 1, 0, 0, 0, 0⟩]]) st.h.length 0 = some ⟨w.heap.size, 0, 0, 0, 0⟩ := by
            refine S2.le _ _ _ ?_
            rw [← hr.len, at_push_new]; rfl
          have hat2 : Gh.at (G ++ [[⟨w.heap.size, 0, 0, 0, 0⟩]] ++ [[⟨w.heap.size + 1, 0, 0, 0, 0⟩]]) (st.h.length + 1) 0 = some ⟨w.heap.size + 1, 0, 0, 0, 0⟩ := by
            have := at_push_new (G := G ++ [[⟨w.heap.size, 0, 0, 0, 0⟩]]) (vs := [⟨w.heap.size + 1, 0, 0, 0, 0⟩])
            rw [List.length_append, hr.len] at this
            exact this
          exact ⟨w.heap.size + 1, [{ target := .collected w.heap.size, args := #[] }], _, _, _, f, _, _, run_enterLoop_outer fnid a.tmps ps asg body, hres _ _, fun f' _ => fen_fn _ f', hinv _ _, (fun e => by cases e),
            fin (fnid := fnid) (dl := .mark st.h.length :: st.dl) (S1.trans S2) hat2 ⟨_, _, hat1, rfl, ha.defers.le (S1.trans S2).le⟩ he⟩
        · -- within a round
          rename_i lo hn
          rw [hn] at hb
          obtain ⟨rv, hv1, rfl⟩ := hb
          split at he
          · rename_i e2 ps2 asg2 body2 s2 p2 hl
            obtain ⟨_, _, L, q1, _⟩ := loop_rec hr hl hv1
            have S1 : Step G (G ++ [[⟨w.heap.size, 0, 0, 0, 0⟩]]) B (st.h ++ [Blk.loop st.env ps asg body .ready none]) w (w.alloc (.loop { state := .ready, pending := none, fn := fnid, tmps := a.tmps, params := ps, assign := asg, body, defers := L.defers })) :=
              Step.push hr rfl (by simp) (fun k hk => (Keep.alloc [] w _).block k hk (by simp)) rfl rfl rfl
                (fun v r hv => by
                  cases v with
                  | zero => simp at hv; subst hv; exact ⟨Nat.le_refl _, by simp⟩
                  | succ v => simp at hv) (.inr ⟨_, rfl, _, World.alloc_heap_new w _, rfl, rfl, rfl, rfl, rfl, ha.env.le (Gh.le_push _ _)⟩)
            have hat1 : Gh.at (G ++ [[⟨w.heap.size, 0, 0, 0, 0⟩]]) st.h.length 0 = some ⟨w.heap.size, 0, 0, 0, 0⟩ := by
              rw [← hr.len, at_push_new]; rfl
            exact ⟨w.heap.size, [], _, _, _, f, _, _, run_enterLoop_inner q1 fnid a.tmps ps asg body, hres _ _, fun f' _ => fen_fn _ f', hinv _ _, (fun e => by cases e),
              fin (fnid := fnid) S1 hat1 (ha.defers.le S1.le) he⟩
          · cases he
    · cases he
  · cases he

/-- Code. -/
theorem mcode_sound (hmo : P.follows .mixedOrders = true) (hng : NoNG P) {run : Code → St → Option (Ex × St)} {call : Cal → List AV → Heap → Option CR} (hrun : RunOK P B W0 run) (hrnd : RndOK run) (hcall : CallOK P B W0 call)
    {n : Nat} (hloop : LoopOK P B W0 run n) : RunOK P B W0 (mcode P run call) := by
  intro c st e st' hc G a w b ha hr hg hb
  cases c with
  | skip => cases hc; exact wpIn_skip ⟨G, .refl hr, rfl, ha⟩
  | label l => cases hc; exact wpIn_label ⟨G, .refl hr, rfl, ha⟩
  | ret => cases hc; exact wpIn_ret ⟨G, .refl hr, rfl, ha⟩
  | exit id => cases hc; exact wpIn_exit ⟨G, .refl hr, rfl, ha⟩
  | region id ops draw =>
    cases draw with
    | true =>
      simp only [mcode] at hc
      cases hm : mdrawn P call ops.toList st.env st.h st.dl with
      | none => rw [hm] at hc; cases hc
      | some r =>
        rw [hm] at hc
        obtain ⟨env', h', rfl, hwp⟩ := mdrawn_sound (Q := PostR G B w e st') (bb := b) (id := id) hmo hcall hm ha hr hg
        cases hc
        rw [Array.toArray_toList] at hwp
        exact hwp fun G' a' w' hS hA => ⟨G', hS, rfl, hA⟩
    | false =>
      simp only [mcode] at hc
      cases hm : mops P call ops st.rnd ops.toList st.env st.h st.dl with
      | none => rw [hm] at hc; cases hc
      | some r =>
        rw [hm] at hc
        have hl : wpListIn (fen b) 0 P ops.toList.toArray (PostR G B w e st') ops.toList a w := by
          rw [Array.toArray_toList]
          refine mops_sound hcall ha hr hg hb hm (fun env' h' mk' G' a' w' hq hS hA => ?_) (fun v env' h' mk' G' u a' w' hq hS hV hD => ?_)
          · subst hq
            cases hc
            exact ⟨G', hS, rfl, hA⟩
          · subst hq
            cases hc
            exact ⟨G', hS, u, hV, rfl, hD⟩
        have := wpIn_region_lit (id := id) hl
        rwa [Array.toArray_toList] at this
  | seq x y =>
    simp only [mcode] at hc
    cases h1 : run x st with
    | none => rw [h1] at hc; cases hc
    | some p =>
      obtain ⟨e1, st1⟩ := p
      rw [h1] at hc
      refine wpIn_seq (Go.wpIn_mono (hrun x st e1 st1 h1 G a w b ha hr hg hb) fun ex a1 w1 hp => ?_)
      obtain ⟨G1, S1, hx⟩ := hp
      cases e1 with
      | normal =>
        obtain ⟨rfl, hA⟩ := hx
        exact Go.wpIn_mono (hrun y st1 e st' hc G1 a1 w1 b hA S1.hr (hg.step hr S1) (by rw [hrnd _ _ _ _ h1]; exact hb.le S1.le)) fun _ _ _ h => PostR.trans S1 h
      | ret => cases hc; obtain ⟨rfl, hA⟩ := hx; exact ⟨G1, S1, rfl, hA⟩
      | exit id => cases hc; obtain ⟨rfl, hA⟩ := hx; exact ⟨G1, S1, rfl, hA⟩
      | panic v => cases hc; obtain ⟨u, hu, rfl, hA⟩ := hx; exact ⟨G1, S1, u, hu, rfl, hA⟩
  | cond c x y =>
    simp only [mcode] at hc
    split at hc
    · rename_i hv
      exact wpIn_cond_true (V_bool (mev_sound ha hr hg _ _ hv)) (hrun x st e st' hc G a w b ha hr hg hb)
    · rename_i hv
      exact wpIn_cond_false (V_bool (mev_sound ha hr hg _ _ hv)) (hrun y st e st' hc G a w b ha hr hg hb)
    · cases hc
  | block id c =>
    simp only [mcode] at hc
    cases h1 : run c st with
    | none => rw [h1] at hc; cases hc
    | some p =>
      obtain ⟨e1, st1⟩ := p
      rw [h1] at hc
      refine wpIn_block (Go.wpIn_mono (hrun c st e1 st1 h1 G a w b ha hr hg hb) fun ex a1 w1 hp => ?_)
      obtain ⟨G1, S1, hx⟩ := hp
      cases e1 with
      | normal => cases hc; obtain ⟨rfl, hA⟩ := hx; exact ⟨G1, S1, rfl, hA⟩
      | ret => cases hc; obtain ⟨rfl, hA⟩ := hx; exact ⟨G1, S1, rfl, hA⟩
      | exit id' =>
        obtain ⟨rfl, hA⟩ := hx
        simp only at hc
        by_cases hid : id' = id
        · rw [if_pos hid] at hc
          cases hc
          simp only [Exit.inBlock, if_pos hid]
          exact ⟨G1, S1, rfl, hA⟩
        · rw [if_neg hid] at hc
          cases hc
          simp only [Exit.inBlock, if_neg hid]
          exact ⟨G1, S1, rfl, hA⟩
      | panic v => cases hc; obtain ⟨u, hu, rfl, hA⟩ := hx; exact ⟨G1, S1, u, hu, rfl, hA⟩
  | loop c => exact wpIn_loop_rounds (n + 1) (loop_step hrun hrnd hloop hc ha hr hg hb)
  | rangeFunc g ps asg body => exact mrange_sound hng hcall hc ha hr hg hb
  | _ => simp [mcode] at hc

theorem mres_sound {G : Gh} {env : Arr AV} {h : Heap} {a : Act} {w : World} (ha : VL G env.toL a.tmps.toList) (hr : HR G B h w) : ∀ {rs : List ResultVar} {vs : List AV}, mres P env h rs = some vs → ∃ us, VL G vs us ∧ RV P (fun t => a.tmps.getD t undef) w rs us
  | [], vs, he => by cases he; exact ⟨[], .nil, rfl⟩
  | .tmp t :: l, vs, he => by
    unfold mres at he
    split at he
    · rename_i v vs' h1 h2
      cases he
      obtain ⟨us, h3, h4⟩ := mres_sound ha hr h2
      obtain ⟨u, h5, h6⟩ := ha.get (Arr.get_toL.trans h1)
      rw [Array.getElem?_toList] at h5
      exact ⟨u :: us, .cons h6 h3, by simp [Array.getD_eq_getD_getElem?, h5], h4⟩
    · cases he
  | .cell t T :: l, vs, he => by
    unfold mres at he
    split at he
    · rename_i loc off ver lim vs' h1 h2
      obtain ⟨us, h3, h4⟩ := mres_sound ha hr h2
      obtain ⟨u, h5, h6⟩ := ha.get (Arr.get_toL.trans h1)
      rw [Array.getElem?_toList] at h5
      cases h6 with
      | @ptr _ _ _ _ r g1 g2 g3 =>
        split at he
        · rename_i n hag hsz
          split at he
          · rename_i cs hrd
            cases he
            obtain ⟨xs, o1, o2, o3⟩ := rd_sound hr hrd g1 g2 g3
            refine ⟨_ :: us, .cons (.agg o1) h3, ⟨_, by simp [Array.getD_eq_getD_getElem?, h5]; rfl, ?_⟩, h4⟩
            have := run_loadCells_list (P := P) w ⟨r.b, off + r.sh - r.lo, none⟩ xs (fun j v hv => by rw [Addr.add_lit]; exact o3 j v hv)
            rw [o2] at this
            simp [loadVar, run_isAgg hag, run_sizeOf hsz, this]
          · cases he
        · rename_i hag
          split at he
          · rename_i v hrd
            cases he
            obtain ⟨xs, o1, o2, o3⟩ := rd_sound hr hrd g1 g2 g3
            obtain ⟨y, rfl⟩ := List.length_eq_one_iff.1 o2
            cases o1 with
            | cons o1 _ =>
              refine ⟨_ :: us, .cons o1 h3, ⟨_, by simp [Array.getD_eq_getD_getElem?, h5]; rfl, ?_⟩, h4⟩
              have h4 := o3 0 y rfl
              rw [Nat.add_zero] at h4
              simp [loadVar, run_isAgg hag, h4]
          · cases he
        · cases he
    · cases he
theorem one_sound {G : Gh} {vs : List AV} {us : List Value} (h : VL G vs us) : V G (oneAV vs) (oneOf us) := by
  cases h with
  | nil => exact .tup .nil
  | cons h t =>
    cases t with
    | nil => exact h
    | cons h2 t => exact .tup (.cons h (.cons h2 t))

theorem VL_replicate (G : Gh) : ∀ n, VL G (List.replicate n AV.undef) (List.replicate n Go.undef)
  | 0 => .nil
  | n + 1 => .cons (.tup .nil) (VL_replicate G n)


theorem mstart_sound {run : Code → St → Option (Ex × St)} (hrun : RunOK P B W0 run) {fn : Func} {args : List AV} {h : Heap} {e : Ex} {st : St} (hc : mstart run fn args h = some (e, st)) {G : Gh} {us : List Value} {w : World} (hx : VL G args us) (hr : HR G B h w) (hg : Glob P B W0 G w) :
    ∃ c, fn.body = some c ∧ c.wpIn Fence.wide 0 P (PostR G B w e st) { tmps := us.toArray ++ Array.replicate (fn.ntmps - us.toArray.size) Go.undef, defers := [] } w := by
  unfold mstart at hc
  split at hc
  · rename_i c hb
    split at hc
    · refine ⟨c, hb, ?_⟩
      have hA : AR G (Arr.of (args ++ List.replicate (fn.ntmps - args.length) .undef)) [] { tmps := us.toArray ++ Array.replicate (fn.ntmps - us.toArray.size) Go.undef, defers := [] } := by
        refine ⟨rfl, ?_⟩
        rw [Arr.toL_of]
        simp only [Array.toList_append, Array.toList_replicate, List.size_toArray, hx.length]
        exact hx.append (VL_replicate G _)
      exact hrun c _ e st hc G _ w none hA hr hg rfl
    · cases hc
  · cases hc

def MR (G : Gh) : Pn → FrameMode → Prop
  | .no, m => m = .returning
  | .up v, m => ∃ u, V G v u ∧ m = .panicking [{ v := u, recovered := false }]
  | .re v, m => ∃ u, V G v u ∧ m = .panicking [{ v := u, recovered := true }]
theorem MR.le {G G' : Gh} {pn : Pn} {m : FrameMode} (h : MR G pn m) (hl : G.le G') : MR G' pn m := by
  cases pn with
  | no => exact h
  | up v => obtain ⟨u, h1, h2⟩ := h; exact ⟨u, h1.le hl, h2⟩
  | re v => obtain ⟨u, h1, h2⟩ := h; exact ⟨u, h1.le hl, h2⟩
theorem MR.settle {G : Gh} {pn : Pn} {m : FrameMode} (h : MR G pn m) : MR G pn.settle (Go.settle m) := by
  cases pn with
  | no => obtain rfl : m = .returning := h; rfl
  | up v => obtain ⟨u, h1, rfl⟩ := h; exact ⟨u, h1, rfl⟩
  | re v => obtain ⟨u, h1, rfl⟩ := h; rfl
theorem MR.run {G : Gh} {pn : Pn} {m : FrameMode} (h : MR G pn m) : m ≠ .run := by
  cases pn with
  | no => obtain rfl : m = .returning := h; simp
  | up v => obtain ⟨u, h1, rfl⟩ := h; simp
  | re v => obtain ⟨u, h1, rfl⟩ := h; simp
theorem wpSIn_mono {F : Fence} {n : Nat} {c : Code} {Q Q' : Exit → Act → List Frame → World → Prop} (hq : ∀ e a cs w, Q e a cs w → Q' e a cs w) {a : Act} {cs : List Frame} {w : World} (h : c.wpSIn F n P Q a cs w) : c.wpSIn F n P Q' a cs w := by
  intro b k h1 h2 h3 h4
  obtain ⟨e, a', cs', w', h5, h6, h7⟩ := h b k h1 h2 h3 h4
  exact ⟨e, a', cs', w', h5, hq _ _ _ _ h6, h7⟩
def DPost (G : Gh) (B : Nat) (w : World) (e : Ex) (st : St) (pn : Pn) (c0 : Frame) (cs : List Frame) (x : Exit) (a : Act) (cs' : List Frame) (w' : World) : Prop :=
  ∃ G' u', Step G G' B st.h w w' ∧ ExOK G' e st.env st.dl x a ∧ MR G' pn u' ∧ cs' = { c0 with mode := u' } :: cs
theorem withPn_eq {pn : Pn} {o : Option (Ex × St)} {e : Ex} {st : St} {pn' : Pn} (h : withPn pn o = some (e, st, pn')) : o = some (e, st) ∧ pn' = pn := by
  unfold withPn at h
  split at h
  · cases h; exact ⟨rfl, rfl⟩
  · cases h
theorem mdc_plain {run : Code → St → Option (Ex × St)} (hrun : RunOK P B W0 run) {c : Code} {st st' : St} {pn pn' : Pn} {e : Ex} (hc : withPn pn (run c st) = some (e, st', pn')) {G : Gh} {a : Act} {w : World} (c0 : Frame) (cs : List Frame) {u : FrameMode}
    (ha : AR G st.env st.dl a) (hr : HR G B st.h w) (hg : Glob P B W0 G w) (hn : st.rnd = none) (hm : MR G pn u) : c.wpSIn Fence.wide 0 P (DPost G B w e st' pn' c0 cs) a ({ c0 with mode := u } :: cs) w := by
  obtain ⟨h1, rfl⟩ := withPn_eq hc
  refine wpSIn_of_wpIn rfl (Go.wpIn_mono (hrun c st e st' h1 G a w none ha hr hg (by rw [hn]; rfl)) fun x a' w' hp => ?_)
  obtain ⟨G', hS, hx⟩ := hp
  exact ⟨G', u, hS, hx, hm.le hS.le, rfl⟩
theorem exec_recover {ρ : Operand → Value} {o : Oper} (h : isRec o = true) {w : World} : (execOp ρ o).run P w = .ok .recover w ∧ ∀ y, Region.wanted o y = true := by
  obtain ⟨dst, op, ty, pos, after, guard⟩ := o
  unfold isRec at h
  split at h
  · rename_i c h1 h2
    split at h
    · rename_i h3
      simp only at h1 h2
      subst h1; subst h2
      obtain ⟨callee, args, ats⟩ := c
      simp only at h3
      subst h3
      exact ⟨by rw [exec_builtin]; rfl, fun y => rfl⟩
    · cases h
  · cases h
theorem mdc_rnd {run : Code → St → Option (Ex × St)} (hrnd : RndOK run) : ∀ {c : Code} {st st' : St} {pn pn' : Pn} {e : Ex}, mdc run c st pn = some (e, st', pn') → st'.rnd = st.rnd := by
  have plain : ∀ {c : Code} {st st' : St} {pn pn' : Pn} {e : Ex}, withPn pn (run c st) = some (e, st', pn') → st'.rnd = st.rnd := fun h => hrnd _ _ _ _ (withPn_eq h).1
  intro c
  induction c with
  | seq x y ihx ihy =>
    intro st st' pn pn' e hc
    simp only [mdc] at hc
    cases h1 : mdc run x st pn with
    | none => rw [h1] at hc; cases hc
    | some p =>
      obtain ⟨e1, st1, pn1⟩ := p
      rw [h1] at hc
      have := ihx h1
      cases e1 with
      | normal => exact (ihy hc).trans this
      | _ => cases hc; exact this
  | region id ops dr =>
    intro st st' pn pn' e hc
    cases dr with
    | true => exact plain hc
    | false =>
      simp only [mdc] at hc
      split at hc
      · split at hc
        · split at hc
          · cases hc; rfl
          · cases hc
        · exact plain hc
      · exact plain hc
  | _ => exact plain
theorem mdc_sound {run : Code → St → Option (Ex × St)} (hrun : RunOK P B W0 run) (hrnd : RndOK run) : ∀ {c : Code} {st st' : St} {pn pn' : Pn} {e : Ex}, mdc run c st pn = some (e, st', pn') → ∀ {G : Gh} {a : Act} {w : World} (c0 : Frame) (cs : List Frame) {u : FrameMode},
    AR G st.env st.dl a → HR G B st.h w → Glob P B W0 G w → st.rnd = none → MR G pn u → st'.rnd = none ∧ c.wpSIn Fence.wide 0 P (DPost G B w e st' pn' c0 cs) a ({ c0 with mode := u } :: cs) w := by
  have plain : ∀ {c : Code} {st st' : St} {pn pn' : Pn} {e : Ex}, withPn pn (run c st) = some (e, st', pn') → ∀ {G : Gh} {a : Act} {w : World} (c0 : Frame) (cs : List Frame) {u : FrameMode},
      AR G st.env st.dl a → HR G B st.h w → Glob P B W0 G w → st.rnd = none → MR G pn u → st'.rnd = none ∧ c.wpSIn Fence.wide 0 P (DPost G B w e st' pn' c0 cs) a ({ c0 with mode := u } :: cs) w := by
    intro c st st' pn pn' e hc G a w c0 cs u ha hr hg hn hm
    exact ⟨(hrnd _ _ _ _ (withPn_eq hc).1).trans hn, mdc_plain hrun hc c0 cs ha hr hg hn hm⟩
  intro c
  induction c with
  | seq x y ihx ihy =>
    intro st st' pn pn' e hc G a w c0 cs u ha hr hg hn hm
    simp only [mdc] at hc
    cases h1 : mdc run x st pn with
    | none => rw [h1] at hc; cases hc
    | some p =>
      obtain ⟨e1, st1, pn1⟩ := p
      rw [h1] at hc
      obtain ⟨hn1, hw⟩ := ihx h1 c0 cs ha hr hg hn hm
      cases e1 with
      | normal =>
        simp only at hc
        refine ⟨?_, wpSIn_seq (wpSIn_mono (fun x1 a1 cs1 w1 hp => ?_) hw)⟩
        · exact (mdc_rnd hrnd hc).trans hn1
        · obtain ⟨G1, u1, S1, ⟨rfl, hA⟩, hm1, rfl⟩ := hp
          exact wpSIn_mono (fun x2 a2 cs2 w2 ⟨G2, u2, S2, hx2, hm2, he2⟩ => ⟨G2, u2, S1.trans S2, hx2, hm2, he2⟩) (ihy hc c0 cs hA S1.hr (hg.step hr S1) hn1 hm1).2
      | ret => cases hc; exact ⟨hn1, wpSIn_seq (wpSIn_mono (fun x1 a1 cs1 w1 hp => by obtain ⟨G1, u1, S1, ⟨rfl, hA⟩, hm1, rfl⟩ := hp; exact ⟨G1, u1, S1, ⟨rfl, hA⟩, hm1, rfl⟩) hw)⟩
      | exit id => cases hc; exact ⟨hn1, wpSIn_seq (wpSIn_mono (fun x1 a1 cs1 w1 hp => by obtain ⟨G1, u1, S1, ⟨rfl, hA⟩, hm1, rfl⟩ := hp; exact ⟨G1, u1, S1, ⟨rfl, hA⟩, hm1, rfl⟩) hw)⟩
      | panic v => cases hc; exact ⟨hn1, wpSIn_seq (wpSIn_mono (fun x1 a1 cs1 w1 hp => by obtain ⟨G1, u1, S1, ⟨u', hu', rfl, hA⟩, hm1, rfl⟩ := hp; exact ⟨G1, u1, S1, ⟨u', hu', rfl, hA⟩, hm1, rfl⟩) hw)⟩
  | region id ops dr =>
    intro st st' pn pn' e hc G a w c0 cs u ha hr hg hn hm
    cases dr with
    | true => exact plain hc c0 cs ha hr hg hn hm
    | false =>
      simp only [mdc] at hc
      split at hc
      · rename_i o hops
        cases hrec : isRec o with
        | false => rw [hrec] at hc; exact plain hc c0 cs ha hr hg hn hm
        | true =>
          rw [hrec] at hc
          simp only at hc
          split at hc
          · rename_i env' hset
            cases hc
            refine ⟨hn, wpSIn_region ?_⟩
            obtain ⟨hrun', hw'⟩ := exec_recover (P := P) (ρ := a.eval) (w := w) hrec
            have hops' : ops = #[o] := by apply Array.ext'; exact hops
            subst hops'
            show wpOpsSIn Fence.wide 0 P #[o] _ [0] a _ w
            unfold wpOpsSIn
            simp only [List.getElem?_toArray, List.getElem?_cons_zero]
            refine ⟨fun f _ => trivial, ?_⟩
            rw [if_pos (hw' _), hrun']
            simp only
            cases pn with
            | no =>
              obtain rfl : u = .returning := hm
              simp only [recoverD]
              unfold wpOpsSIn
              exact ⟨G, .returning, .refl hr, ⟨rfl, put_sound ha hset .nili⟩, rfl, rfl⟩
            | up v =>
              obtain ⟨uv, h1, rfl⟩ := hm
              simp only [recoverD]
              unfold wpOpsSIn
              exact ⟨G, _, .refl hr, ⟨rfl, put_sound ha hset h1⟩, ⟨uv, h1, rfl⟩, rfl⟩
            | re v =>
              obtain ⟨uv, h1, rfl⟩ := hm
              simp only [recoverD]
              unfold wpOpsSIn
              exact ⟨G, _, .refl hr, ⟨rfl, put_sound ha hset .nili⟩, ⟨uv, h1, rfl⟩, rfl⟩
          · cases hc
      · exact plain hc c0 cs ha hr hg hn hm
  | _ => exact plain

theorem mdcall_sound {run : Code → St → Option (Ex × St)} (hng : NoNG P) (hrun : RunOK P B W0 run) (hrnd : RndOK run) {f : FuncId} {args : List AV} {h h' : Heap} {pn pn' : Pn} (hc : mdcall P run f args h pn = some (h', pn')) {G : Gh} {us : List Value} {w : World} (hx : VL G args us) (hr : HR G B h w) (hg : Glob P B W0 G w) {u : FrameMode} (hm : MR G pn u) :
    Enters P f ∧ CallsDIn Fence.wide 0 P f us.toArray u w fun e u' w' => (∃ v, e = .returned v) ∧ ∃ G', Step G G' B h' w w' ∧ MR G' pn' u' := by
  unfold mdcall at hc
  split at hc
  · rename_i fn hf
    split at hc
    · rename_i c hb
      split at hc
      · cases h1 : mdc run c ⟨Arr.of (args ++ List.replicate (fn.ntmps - args.length) .undef), h, [], none⟩ pn with
        | none => rw [h1] at hc; cases hc
        | some p =>
          obtain ⟨e1, st1, pn1⟩ := p
          rw [h1] at hc
          have hA : AR G (Arr.of (args ++ List.replicate (fn.ntmps - args.length) .undef)) [] { tmps := us.toArray ++ Array.replicate (fn.ntmps - us.toArray.size) Go.undef, defers := [] } := by
            refine ⟨rfl, ?_⟩
            rw [Arr.toL_of]
            simp only [Array.toList_append, Array.toList_replicate, List.size_toArray, hx.length]
            exact hx.append (VL_replicate G _)
          refine ⟨Enters.mk hf (hng f fn hf) (by rw [hb]; rfl), callsDIn_of_wpSIn hf hb trivial fun c0 cs hu => ?_⟩
          subst hu
          refine wpSIn_mono (fun x a1 cs1 w1 hp => ?_) (mdc_sound hrun hrnd h1 c0 cs hA hr hg rfl hm).2
          obtain ⟨G1, u1, S1, hx1, hm1, rfl⟩ := hp
          have fin : ∀ {vs : List AV}, AR G1 st1.env st1.dl a1 → st1.dl = [] → mres P st1.env st1.h fn.results.toList = some vs → st1.h = h' → pn1 = pn' →
              a1.defers = [] ∧ ∃ u', ({ c0 with mode := u1 } : Frame) :: cs = { c0 with mode := u' } :: cs ∧ ∃ v, (results fn a1.tmps).run P w1 = .ok v w1 ∧ (∃ v', Ending.returned v = .returned v') ∧ ∃ G', Step G G' B h' w w1 ∧ MR G' pn' u' := by
            intro vs hA hd hmr hh hpn
            have hdf := hA.defers
            rw [hd] at hdf
            obtain ⟨us', h3, h4⟩ := mres_sound hA.env S1.hr hmr
            exact ⟨hdf, u1, rfl, oneOf us', run_resultsRV fn fn.results.toList a1.tmps (by simp) us' h4, ⟨_, rfl⟩, G1, hh ▸ S1, hpn ▸ hm1⟩
          cases e1 with
          | normal =>
            obtain ⟨rfl, hA⟩ := hx1
            simp only at hc
            split at hc
            · rename_i vs hd hmr; cases hc; exact fin hA hd hmr rfl rfl
            · cases hc
          | ret =>
            obtain ⟨rfl, hA⟩ := hx1
            simp only at hc
            split at hc
            · rename_i vs hd hmr; cases hc; exact fin hA hd hmr rfl rfl
            · cases hc
          | _ => cases hc
      · cases hc
    · cases hc
  · cases hc

theorem mleave_sound {run : Code → St → Option (Ex × St)} (hng : NoNG P) (hrun : RunOK P B W0 run) (hrnd : RndOK run) {fn : Func} {tmps : Array Value} {R : Ending → World → Prop} {h' : Heap} {pn' : Pn} : ∀ {dl : List Dfd} {ds : List Deferred} {G : Gh} {h : Heap} {w : World} {pn : Pn} {u : FrameMode}, MK G dl ds → HR G B h w → Glob P B W0 G w → MR G pn u →
    mleave (mdcall P run) dl h pn = some (h', pn') → (∀ G' w' u', Step G G' B h' w w' → MR G' pn' u' → LeavesIn Fence.wide 0 P fn tmps R [] u' w') → LeavesInM Fence.wide 0 P fn tmps R ds u w
  | [], ds, G, h, w, pn, u, hm, hr, hg, hu, hl, hk => by
    cases hl
    have : ds = [] := hm
    subst this
    exact hk G w u (.refl hr) hu
  | .mark loc :: dl, ds, G, h, w, pn, u, hm, hr, hg, hu, hl, hk => by
    obtain ⟨r, ds', hat, rfl, hm'⟩ := hm
    unfold mleave at hl
    split at hl
    · rename_i hb
      obtain ⟨b, vs, hb', hgv, hv, hR⟩ := hr.get hat
      rw [hb] at hb'; cases hb'
      rcases hR with rfl | ⟨r0, rfl, q⟩
      · simp at hv
      · simp at hv; subst hv
        have hT : Step G G B (h.set loc .gone) w (w.putObj r0.b (.deferred none)) := Step.turn hr hb hgv rfl rfl trivial
        exact ⟨hu.run, .inl ⟨r0.b, _, rfl, run_takeDeferred q, mleave_sound hng hrun hrnd hm' hT.hr (hg.step hr hT) hu hl fun G' w' u' hS => hk G' w' u' (hT.trans hS)⟩⟩
    · cases hl
  | .call f args cap :: dl, ds, G, h, w, pn, u, hm, hr, hg, hu, hl, hk => by
    obtain ⟨us, vc, ds', h1, h2, rfl, hm'⟩ := hm
    unfold mleave at hl
    cases hc : mdcall P run f (args ++ cap) h pn with
    | none => rw [hc] at hl; cases hl
    | some p =>
      obtain ⟨h2', pn2⟩ := p
      rw [hc] at hl
      obtain ⟨hE, hD⟩ := mdcall_sound hng hrun hrnd hc (h1.append h2) hr hg hu
      refine ⟨hu.run, .inr ⟨(fun e => by cases e), .func f, vc.toArray, f, (us ++ vc).toArray, rfl, ?_, fun g _ => trivial, ?_⟩⟩
      · simp only [invoke]
        rw [show us.toArray ++ vc.toArray = (us ++ vc).toArray from by apply Array.ext'; simp]
        exact hE _ _
      · refine ⟨hD.1, fun c cs hcu hroom => ?_⟩
        obtain ⟨e, u', w', fr, ⟨⟨v, rfl⟩, G', hS, hu'⟩, hrest⟩ := hD.2 c cs hcu hroom
        refine ⟨.returned v, u', w', fr, ?_, hrest⟩
        show LeavesInM Fence.wide 0 P fn tmps R ds' (settle u') w'
        exact mleave_sound hng hrun hrnd (hm'.le hS.le) hS.hr (hg.step hr hS) hu'.settle hl fun G2 w2 u2 hS2 => hk G2 w2 u2 (hS.trans hS2)

theorem mbody_sound {run : Code → St → Option (Ex × St)} (hng : NoNG P) (hrun : RunOK P B W0 run) (hrnd : RndOK run) {f : FuncId} {args : List AV} {h : Heap} {r : CR} (hc : mbody P run f args h = some r) {G : Gh} {us : List Value} {w : World} (hx : VL G args us) (hr : HR G B h w) (hg : Glob P B W0 G w) :
    Calls P f us.toArray w (CROK G B w r) ∧ Enters P f := by
  unfold mbody at hc
  split at hc
  · rename_i fn hf
    cases h1 : mstart run fn args h with
    | none => rw [h1] at hc; cases hc
    | some p =>
      obtain ⟨e1, st1⟩ := p
      rw [h1] at hc
      obtain ⟨c, hb, hwp⟩ := mstart_sound hrun h1 hx hr hg
      refine ⟨callsIn_wide.1 (callsIn_of_wp_marks (n := 0) hf hb trivial (Go.wpIn_mono hwp fun ex a1 w1 hp => ?_)), Enters.mk hf (hng f fn hf) (by rw [hb]; rfl)⟩
      obtain ⟨G1, S1, hx1⟩ := hp
      have fin : ∀ {pn : Pn} {u : FrameMode}, AR G1 st1.env st1.dl a1 → MR G1 pn u → mend P fn st1.env (mleave (mdcall P run) st1.dl st1.h pn) = some r → LeavesInM Fence.wide 0 P fn a1.tmps (CROK G B w r) a1.defers u w1 := by
        intro pn u hA hu hm
        unfold mend at hm
        split at hm
        · rename_i h2 hl
          split at hm
          · rename_i vs hvs
            cases hm
            refine mleave_sound hng hrun hrnd hA.defers S1.hr (hg.step hr S1) hu hl fun G' w' u' hS hu' => ?_
            obtain rfl : u' = .returning := hu'
            obtain ⟨us', h3, h4⟩ := mres_sound (hA.env.le hS.le) hS.hr hvs
            exact ⟨oneOf us', run_resultsRV fn fn.results.toList a1.tmps (by simp) us' h4, G', S1.trans hS, _, one_sound h3, rfl⟩
          · cases hm
        · rename_i h2 v hl
          cases hm
          refine mleave_sound hng hrun hrnd hA.defers S1.hr (hg.step hr S1) hu hl fun G' w' u' hS hu' => ?_
          obtain ⟨uv, h3, rfl⟩ := hu'
          exact ⟨G', S1.trans hS, uv, h3, rfl⟩
        · cases hm
      cases e1 with
      | normal => obtain ⟨rfl, hA⟩ := hx1; exact fin (pn := .no) hA rfl hc
      | ret => obtain ⟨rfl, hA⟩ := hx1; exact fin (pn := .no) hA rfl hc
      | exit id => cases hc
      | panic v =>
        obtain ⟨u, hu, rfl, hA⟩ := hx1
        exact fin (pn := .up v) hA ⟨u, hu, rfl⟩ hc
  · cases hc

theorem VL_set {G : Gh} {e : Arr AV} {us : List Value} (h : VL G e.toL us) {v : AV} {u : Value} (hv : V G v u) (t : Nat) : VL G (e.set t v).toL (us.set t u) := by
  have hl := h.length
  rw [Arr.toL_length] at hl
  refine VL.of_get (by rw [Arr.toL_length, Arr.length_set, List.length_set]; exact hl) fun i x y hx hy => ?_
  rw [Arr.get_toL, Arr.get_set] at hx
  rw [List.getElem?_set] at hy
  split at hx
  · rename_i hti
    rw [if_pos hti] at hy
    split at hx
    · rename_i hlt
      cases hx
      rw [if_pos (by omega)] at hy
      cases hy; exact hv
    · cases hx
  · rename_i hti
    rw [if_neg hti] at hy
    obtain ⟨y', h1, h2⟩ := h.get (Arr.get_toL.trans hx)
    rw [h1] at hy; cases hy; exact h2
theorem VL_fold {G : Gh} : ∀ {ps : List Tmp} {args : List AV} {us : List Value} {e : Arr AV} {ts : Array Value}, VL G args us → VL G e.toL ts.toList →
    VL G ((ps.zip args).foldl (fun e p => e.set p.1 p.2) e).toL ((ps.zip us).foldl (fun tmps p => tmps.setIfInBounds p.1 p.2) ts).toList
  | [], args, us, e, ts, _, h => by simpa using h
  | p :: ps, [], us, e, ts, hx, h => by cases hx; simpa using h
  | p :: ps, a :: args, us, e, ts, hx, h => by
    cases hx with
    | cons h1 h2 =>
      simp only [List.zip_cons_cons, List.foldl_cons]
      refine VL_fold h2 ?_
      rw [Array.toList_setIfInBounds]
      exact VL_set h h1 p

theorem mround_sound {run : Code → St → Option (Ex × St)} (hrun : RunOK P B W0 run) (hrnd : RndOK run) {loc : Nat} {args : List AV} {h : Heap} {r : CR} (hc : mround run loc args h = some r) : RoundR P B W0 loc args h r := by
  intro G us w rv hx hr hg hat
  unfold mround at hc
  split at hc
  · rename_i env ps asg body s p hl
    split at hc
    · rename_i hlen
      obtain ⟨_, _, L, q1, q2, q3, q4, q5, q6, q7⟩ := loop_rec hr hl hat
      refine ⟨L, q1, by rw [hx.length, hlen, q4], roundIn_of_wpIn (F := Fence.wide) trivial ?_⟩
      cases h1 : run asg ⟨(ps.toList.zip args).foldl (fun e p => e.set p.1 p.2) env, h, [], some loc⟩ with
      | none => rw [h1] at hc; cases hc
      | some pr =>
        obtain ⟨e1, st1⟩ := pr
        rw [h1] at hc
        cases e1 with
        | normal =>
          simp only at hc
          have hA : AR G ((ps.toList.zip args).foldl (fun e p => e.set p.1 p.2) env) [] { tmps := (L.params.zip us.toArray).foldl (fun tmps (t, a) => tmps.setIfInBounds t a) L.tmps, defers := [] } := by
            refine ⟨rfl, ?_⟩
            have := VL_fold (ps := ps.toList) hx q7
            rw [← q4] at this ⊢
            rw [← Array.foldl_toList, Array.toList_zip]
            exact this
          rw [q5, q6]
          refine Go.wpIn_mono (hrun asg _ _ st1 h1 G _ w (some rv.b) hA hr hg ⟨rv, hat, rfl⟩) fun ex a1 w1 hp => ?_
          obtain ⟨G1, S1, rfl, hA1⟩ := hp
          unfold mbusy at hc
          split at hc
          · rename_i e2 p2 a2 b2 pd hl2
            have hat1 := S1.le _ _ _ hat
            obtain ⟨_, _, L2, k1, k2, k3, k4, k5, k6, k7⟩ := loop_rec S1.hr hl2 hat1
            have hT := loop_turn S1.hr hl2 hat1 .busy pd k1
            have hpe : ({ L2 with state := .busy } : Loop) = { L2 with state := .busy, pending := pd } := by rw [← k3]
            refine ⟨_, run_beginRound k1 k2, ?_⟩
            rw [hpe]
            cases h2 : run body ⟨st1.env, st1.h.set loc (.loop e2 p2 a2 b2 .busy pd), st1.dl, some loc⟩ with
            | none => rw [h2] at hc; cases hc
            | some pr2 =>
              obtain ⟨e3, st2⟩ := pr2
              rw [h2] at hc
              simp only at hc
              have hS2 := S1.trans hT
              refine Go.wpIn_mono (hrun body _ e3 st2 h2 G1 a1 _ (some rv.b) hA1 hT.hr (hg.step hr hS2) ⟨rv, hat1, rfl⟩) fun ex a2' w2 hp2 => ?_
              obtain ⟨G2, S3, hx3⟩ := hp2
              have hS4 := hS2.trans S3
              unfold mendRound at hc
              split at hc
              · rename_i e4 p4 a4 b4 s4 pd4 hl4
                have hat2 := S3.le _ _ _ hat1
                obtain ⟨_, _, L3, m1, _⟩ := loop_rec S3.hr hl4 hat2
                cases e3 with
                | normal =>
                  obtain ⟨rfl, _⟩ := hx3
                  cases hc
                  exact ⟨_, _, run_endRound none m1, G2, hS4.trans (loop_turn S3.hr hl4 hat2 .ready none m1), _, .bool true, rfl⟩
                | ret =>
                  obtain ⟨rfl, _⟩ := hx3
                  cases hc
                  exact ⟨_, _, run_endRound (some .ret) m1, G2, hS4.trans (loop_turn S3.hr hl4 hat2 .done (some .ret) m1), _, .bool false, rfl⟩
                | exit id =>
                  obtain ⟨rfl, _⟩ := hx3
                  cases hc
                  exact ⟨_, _, run_endRound (some (.exit id)) m1, G2, hS4.trans (loop_turn S3.hr hl4 hat2 .done (some (.exit id)) m1), _, .bool false, rfl⟩
                | panic v => cases hc
              · cases hc
          · cases hc
        | _ => cases hc
    · cases hc
  · cases hc

theorem mcall_sound {hk : Hooks} {run : Code → St → Option (Ex × St)} (hng : NoNG P) (hh : HooksOK P B W0 hk) (hrun : RunOK P B W0 run) (hrnd : RndOK run) : CallOK P B W0 (mcall P hk run) := by
  intro c args h r hc
  cases c with
  | f f =>
    simp only [mcall] at hc
    show CallR P B W0 f args h r
    split at hc
    · rename_i g hg; exact hh f g hg args h r hc
    · intro G us w hx hr hg; exact .inl (mbody_sound hng hrun hrnd hc hx hr hg)
  | y loc => exact mround_sound hrun hrnd hc
theorem mrun_sound (hmo : P.follows .mixedOrders = true) {hk : Hooks} (hng : NoNG P) (hh : HooksOK P B W0 hk) : ∀ n, RunOK P B W0 (mrun P hk n) ∧ LoopOK P B W0 (mrun P hk n) n ∧ RndOK (mrun P hk n)
  | 0 => ⟨(fun _ _ _ _ h => by cases h), (fun _ _ _ _ h => by cases h), (fun _ _ _ _ h => by cases h)⟩
  | n + 1 => by
    obtain ⟨h1, h2, h4⟩ := mrun_sound hmo hng hh n
    have h3 := mcode_sound hmo hng h1 h4 (mcall_sound hng hh h1 h4) h2
    exact ⟨h3, fun c st e st' hc G a w b ha hr hg hb => loop_step h1 h4 h2 hc ha hr hg hb, mcode_rnd h4⟩

/-- What M answers, the model answers. -/
theorem machine_sound (hmo : P.follows .mixedOrders = true) {hk : Hooks} (hng : NoNG P) (hh : HooksOK P B W0 hk) {n f : Nat} {args : List AV} {h : Heap} {r : CR} (hc : mbody P (mrun P hk n) f args h = some r) {G : Gh} {us : List Value} {w : World} (hx : VL G args us) (hr : HR G B h w) (hg : Glob P B W0 G w) :
    Calls P f us.toArray w (CROK G B w r) := (mbody_sound hng (mrun_sound hmo hng hh n).1 (mrun_sound hmo hng hh n).2.2 hc hx hr hg).1
end
end Go.Mx
