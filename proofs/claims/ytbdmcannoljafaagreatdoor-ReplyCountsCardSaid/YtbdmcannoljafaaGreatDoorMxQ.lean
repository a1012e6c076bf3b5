/- The machine M: code, calls; sound. -/
import Derived.Test.YtbdmcannoljafaaGreatDoorMxP
set_option linter.unusedVariables false
set_option linter.unusedSimpArgs false
namespace Go.Mx
open Go Go.Gx

def mcode (P : Program) (run : Code → St → Option (Ex × St)) (call : FuncId → List AV → Heap → Option CR) : Code → St → Option (Ex × St)
  | .skip, st => some (.normal, st)
  | .label _, st => some (.normal, st)
  | .ret, st => some (.ret, st)
  | .exit id, st => some (.exit id, st)
  | .region _ ops false, st => ofOR (mops P call ops ops.toList st.env st.h)
  | .region _ ops true, st => ofOR (mdrawn P call ops.toList st.env st.h)
  | .seq a b, st => match run a st with
    | some (.normal, st') => run b st'
    | r => r
  | .cond c a b, st => match mev P st.env st.h c with
    | some (.bool true) => run a st
    | some (.bool false) => run b st
    | _ => none
  | .block id c, st => match run c st with
    | some (.exit id', st') => if id' = id then some (.normal, st') else some (.exit id', st')
    | r => r
  | .loop c, st => match run c st with
    | some (.normal, st') => run (.loop c) st'
    | r => r
  | _, _ => none

def mres (P : Program) (env : List AV) (h : Heap) : List ResultVar → Option (List AV)
  | [] => some []
  | .tmp t :: l => match env[t]?, mres P env h l with
    | some v, some vs => some (v :: vs)
    | _, _ => none
  | .cell a T :: l => match env[a]?, mres P env h l with
    | some (.ptr loc off ver lim), some vs => match aggT P T, szOf P T with
      | some true, some n => match rd h loc off ver lim n with | some cs => some (.agg cs :: vs) | none => none
      | some false, _ => match rd h loc off ver lim 1 with | some [v] => some (v :: vs) | _ => none
      | _, _ => none
    | _, _ => none
def oneAV : List AV → AV
  | [v] => v
  | vs => .tup vs
def mbody (P : Program) (run : Code → St → Option (Ex × St)) (f : FuncId) (args : List AV) (h : Heap) : Option CR :=
  match P.funcs[f]? with
  | some fn => match fn.body with
    | some c => if args.length ≤ fn.ntmps then match run c ⟨args ++ List.replicate (fn.ntmps - args.length) .undef, h⟩ with
        | some (.normal, st) => match mres P st.env st.h fn.results.toList with | some vs => some (.ret (oneAV vs) st.h) | none => none
        | some (.ret, st) => match mres P st.env st.h fn.results.toList with | some vs => some (.ret (oneAV vs) st.h) | none => none
        | some (.panic v, st) => some (.pan v st.h)
        | _ => none
      else none
    | none => none
  | none => none
def mcall (P : Program) (hk : Hooks) (run : Code → St → Option (Ex × St)) (f : FuncId) (args : List AV) (h : Heap) : Option CR :=
  match hk f with
  | some g => g args h
  | none => mbody P run f args h
def mrun (P : Program) (hk : Hooks) : Nat → Code → St → Option (Ex × St)
  | 0, _, _ => none
  | n + 1, c, st => mcode P (mrun P hk n) (mcall P hk (mrun P hk n)) c st

section
variable {P : Program} {B : Nat} {W0 : World}

theorem PostR.trans {G G' : Gh} {w w' : World} {h' : Heap} {e : Ex} {st : St} {x : Exit} {a : Act} {w'' : World} (hS : Step G G' B h' w w') (h : PostR G' B w' e st x a w'') : PostR G B w e st x a w'' := by
  obtain ⟨G2, S2, hx⟩ := h
  exact ⟨G2, hS.trans S2, hx⟩

theorem rounds_mono {c : Code} {Q Q' : Exit → Act → World → Prop} (hq : ∀ x a w, Q x a w → Q' x a w) : ∀ {n : Nat} {a : Act} {w : World}, Code.rounds P c Q n a w → Code.rounds P c Q' n a w
  | 0, _, _, h => h
  | n + 1, a, w, h => by
    rw [rounds_succ] at h ⊢
    refine wp_mono h fun x a w hx => ?_
    cases x with
    | normal => exact rounds_mono hq hx
    | _ => exact hq _ _ _ hx
def LoopOK (P : Program) (B : Nat) (W0 : World) (run : Code → St → Option (Ex × St)) (n : Nat) : Prop :=
  ∀ c st e st', run (.loop c) st = some (e, st') → ∀ (G : Gh) (a : Act) (w : World), AR G st.env a → HR G B st.h w → Glob P B W0 G w → Code.rounds P c (PostR G B w e st') n a w
theorem loop_step {run : Code → St → Option (Ex × St)} (hrun : RunOK P B W0 run) {n : Nat} (hloop : LoopOK P B W0 run n) {c : Code} {st st' : St} {e : Ex} (hc : (match run c st with | some (.normal, st') => run (.loop c) st' | r => r) = some (e, st'))
    {G : Gh} {a : Act} {w : World} (ha : AR G st.env a) (hr : HR G B st.h w) (hg : Glob P B W0 G w) : Code.rounds P c (PostR G B w e st') (n + 1) a w := by
  rw [rounds_succ]
  cases h1 : run c st with
  | none => rw [h1] at hc; cases hc
  | some p =>
    obtain ⟨e1, st1⟩ := p
    rw [h1] at hc
    refine wp_mono (hrun c st e1 st1 h1 G a w ha hr hg) fun ex a1 w1 hp => ?_
    obtain ⟨G1, S1, hx⟩ := hp
    cases e1 with
    | normal =>
      obtain ⟨rfl, hA⟩ := hx
      exact rounds_mono (fun _ _ _ h => PostR.trans S1 h) (hloop c st1 e st' hc G1 a1 w1 hA S1.hr (hg.step hr S1))
    | ret => cases hc; obtain ⟨rfl, hA⟩ := hx; exact ⟨G1, S1, rfl, hA⟩
    | exit id => cases hc; obtain ⟨rfl, hA⟩ := hx; exact ⟨G1, S1, rfl, hA⟩
    | panic v => cases hc; obtain ⟨u, hu, rfl, hA⟩ := hx; exact ⟨G1, S1, u, hu, rfl, hA⟩

/-- Code. -/
theorem mcode_sound (hmo : P.follows .mixedOrders = true) {run : Code → St → Option (Ex × St)} {call : FuncId → List AV → Heap → Option CR} (hrun : RunOK P B W0 run) (hcall : CallOK P B W0 call)
    {n : Nat} (hloop : LoopOK P B W0 run n) : RunOK P B W0 (mcode P run call) := by
  intro c st e st' hc G a w ha hr hg
  cases c with
  | skip => cases hc; exact wp_skip ⟨G, .refl hr, rfl, ha⟩
  | label l => cases hc; exact wp_label ⟨G, .refl hr, rfl, ha⟩
  | ret => cases hc; exact wp_ret ⟨G, .refl hr, rfl, ha⟩
  | exit id => cases hc; exact wp_exit ⟨G, .refl hr, rfl, ha⟩
  | region id ops draw =>
    cases draw with
    | true =>
      simp only [mcode] at hc
      cases hm : mdrawn P call ops.toList st.env st.h with
      | none => rw [hm] at hc; cases hc
      | some r =>
        rw [hm] at hc
        obtain ⟨env', h', rfl, hwp⟩ := mdrawn_sound (Q := PostR G B w e st') (id := id) hmo hcall hm ha hr hg
        cases hc
        rw [Array.toArray_toList] at hwp
        exact hwp fun G' a' w' hS hA => ⟨G', hS, rfl, hA⟩
    | false =>
      simp only [mcode] at hc
      cases hm : mops P call ops ops.toList st.env st.h with
      | none => rw [hm] at hc; cases hc
      | some r =>
        rw [hm] at hc
        have hl : wpList P ops.toList.toArray (PostR G B w e st') ops.toList a w := by
          rw [Array.toArray_toList]
          refine mops_sound hcall ha hr hg hm (fun env' h' G' a' w' hq hS hA => ?_) (fun v h' G' u a' w' hq hS hV hD => ?_)
          · subst hq
            cases hc
            exact ⟨G', hS, rfl, hA⟩
          · subst hq
            cases hc
            exact ⟨G', hS, u, hV, rfl, hD⟩
        have := wp_region_lit (id := id) hl
        rwa [Array.toArray_toList] at this
  | seq x y =>
    simp only [mcode] at hc
    cases h1 : run x st with
    | none => rw [h1] at hc; cases hc
    | some p =>
      obtain ⟨e1, st1⟩ := p
      rw [h1] at hc
      refine wp_seq (wp_mono (hrun x st e1 st1 h1 G a w ha hr hg) fun ex a1 w1 hp => ?_)
      obtain ⟨G1, S1, hx⟩ := hp
      cases e1 with
      | normal =>
        obtain ⟨rfl, hA⟩ := hx
        exact wp_mono (hrun y st1 e st' hc G1 a1 w1 hA S1.hr (hg.step hr S1)) fun _ _ _ h => PostR.trans S1 h
      | ret => cases hc; obtain ⟨rfl, hA⟩ := hx; exact ⟨G1, S1, rfl, hA⟩
      | exit id => cases hc; obtain ⟨rfl, hA⟩ := hx; exact ⟨G1, S1, rfl, hA⟩
      | panic v => cases hc; obtain ⟨u, hu, rfl, hA⟩ := hx; exact ⟨G1, S1, u, hu, rfl, hA⟩
  | cond c x y =>
    simp only [mcode] at hc
    split at hc
    · rename_i hv
      exact wp_cond_true (V_bool (mev_sound ha hr hg _ _ hv)) (hrun x st e st' hc G a w ha hr hg)
    · rename_i hv
      exact wp_cond_false (V_bool (mev_sound ha hr hg _ _ hv)) (hrun y st e st' hc G a w ha hr hg)
    · cases hc
  | block id c =>
    simp only [mcode] at hc
    cases h1 : run c st with
    | none => rw [h1] at hc; cases hc
    | some p =>
      obtain ⟨e1, st1⟩ := p
      rw [h1] at hc
      refine wp_block (wp_mono (hrun c st e1 st1 h1 G a w ha hr hg) fun ex a1 w1 hp => ?_)
      obtain ⟨G1, S1, hx⟩ := hp
      cases e1 with
      | normal => cases hc; obtain ⟨rfl, hA⟩ := hx; exact ⟨G1, S1, rfl, hA⟩
      | ret => cases hc; obtain ⟨rfl, hA⟩ := hx; exact ⟨G1, S1, rfl, hA⟩
      | exit id' =>
        obtain ⟨rfl, hA⟩ := hx
        simp only at hc
        by_cases hid : id' = id
        · rw [if_pos hid] at hc
          cases hc
          simp only [Exit.inBlock, if_pos hid]
          exact ⟨G1, S1, rfl, hA⟩
        · rw [if_neg hid] at hc
          cases hc
          simp only [Exit.inBlock, if_neg hid]
          exact ⟨G1, S1, rfl, hA⟩
      | panic v => cases hc; obtain ⟨u, hu, rfl, hA⟩ := hx; exact ⟨G1, S1, u, hu, rfl, hA⟩
  | loop c => exact wp_loop_rounds (n + 1) (loop_step hrun hloop hc ha hr hg)
  | _ => simp [mcode] at hc

theorem mres_sound {G : Gh} {env : List AV} {h : Heap} {a : Act} {w : World} (ha : AR G env a) (hr : HR G B h w) : ∀ {rs : List ResultVar} {vs : List AV}, mres P env h rs = some vs → ∃ us, VL G vs us ∧ RV P (fun t => a.tmps.getD t undef) w rs us
  | [], vs, he => by cases he; exact ⟨[], .nil, rfl⟩
  | .tmp t :: l, vs, he => by
    unfold mres at he
    split at he
    · rename_i v vs' h1 h2
      cases he
      obtain ⟨us, h3, h4⟩ := mres_sound ha hr h2
      obtain ⟨u, h5, h6⟩ := ha.env.get h1
      rw [Array.getElem?_toList] at h5
      exact ⟨u :: us, .cons h6 h3, by simp [Array.getD_eq_getD_getElem?, h5], h4⟩
    · cases he
  | .cell t T :: l, vs, he => by
    unfold mres at he
    split at he
    · rename_i loc off ver lim vs' h1 h2
      obtain ⟨us, h3, h4⟩ := mres_sound ha hr h2
      obtain ⟨u, h5, h6⟩ := ha.env.get h1
      rw [Array.getElem?_toList] at h5
      cases h6 with
      | @ptr _ _ _ _ r g1 g2 g3 =>
        split at he
        · rename_i n hag hsz
          split at he
          · rename_i cs hrd
            cases he
            obtain ⟨xs, o1, o2, o3⟩ := rd_sound hr hrd g1 g2 g3
            refine ⟨_ :: us, .cons (.agg o1) h3, ⟨_, by simp [Array.getD_eq_getD_getElem?, h5]; rfl, ?_⟩, h4⟩
            have := run_loadCells_list (P := P) w ⟨r.b, off + r.sh - r.lo, none⟩ xs (fun j v hv => by rw [Addr.add_lit]; exact o3 j v hv)
            rw [o2] at this
            simp [loadVar, run_isAgg hag, run_sizeOf hsz, this]
          · cases he
        · rename_i hag
          split at he
          · rename_i v hrd
            cases he
            obtain ⟨xs, o1, o2, o3⟩ := rd_sound hr hrd g1 g2 g3
            obtain ⟨y, rfl⟩ := List.length_eq_one_iff.1 o2
            cases o1 with
            | cons o1 _ =>
              refine ⟨_ :: us, .cons o1 h3, ⟨_, by simp [Array.getD_eq_getD_getElem?, h5]; rfl, ?_⟩, h4⟩
              have h4 := o3 0 y rfl
              rw [Nat.add_zero] at h4
              simp [loadVar, run_isAgg hag, h4]
          · cases he
        · cases he
    · cases he
theorem one_sound {G : Gh} {vs : List AV} {us : List Value} (h : VL G vs us) : V G (oneAV vs) (oneOf us) := by
  cases h with
  | nil => exact .tup .nil
  | cons h t =>
    cases t with
    | nil => exact h
    | cons h2 t => exact .tup (.cons h (.cons h2 t))

theorem VL_replicate (G : Gh) : ∀ n, VL G (List.replicate n AV.undef) (List.replicate n Go.undef)
  | 0 => .nil
  | n + 1 => .cons (.tup .nil) (VL_replicate G n)

def NoNG (P : Program) : Prop := ∀ (f : Nat) (fn : Func), P.funcs[f]? = some fn → (fn.name == "runtime.NumGoroutine") = false

theorem mbody_sound {run : Code → St → Option (Ex × St)} (hng : NoNG P) (hrun : RunOK P B W0 run) {f : FuncId} {args : List AV} {h : Heap} {r : CR} (hc : mbody P run f args h = some r) {G : Gh} {us : List Value} {w : World} (hx : VL G args us) (hr : HR G B h w) (hg : Glob P B W0 G w) :
    Calls P f us.toArray w (CROK G B w r) ∧ Enters P f := by
  unfold mbody at hc
  split at hc
  · rename_i fn hf
    split at hc
    · rename_i c hb
      split at hc
      · rename_i hle
        refine ⟨calls_of_wp hf hb ?_, Enters.mk hf (hng f fn hf) (by rw [hb]; rfl)⟩
        have hA : AR G (args ++ List.replicate (fn.ntmps - args.length) .undef) { tmps := us.toArray ++ Array.replicate (fn.ntmps - us.toArray.size) Go.undef, defers := [] } := by
          refine ⟨rfl, ?_⟩
          simp only [Array.toList_append, Array.toList_replicate, List.size_toArray, hx.length]
          exact hx.append (VL_replicate G _)
        cases h1 : run c ⟨args ++ List.replicate (fn.ntmps - args.length) .undef, h⟩ with
        | none => rw [h1] at hc; cases hc
        | some p =>
          obtain ⟨e1, st1⟩ := p
          rw [h1] at hc
          refine wp_mono (hrun c _ e1 st1 h1 G _ w hA hr hg) fun ex a1 w1 hp => ?_
          obtain ⟨G1, S1, hx1⟩ := hp
          have fin : ∀ {vs : List AV}, AR G1 st1.env a1 → mres P st1.env st1.h fn.results.toList = some vs → r = .ret (oneAV vs) st1.h → a1.defers = [] ∧ ∃ v, (results fn a1.tmps).run P w1 = .ok v w1 ∧ CROK G B w r (.returned v) w1 := by
            intro vs hA1 hm hr'
            obtain ⟨us', h3, h4⟩ := mres_sound hA1 S1.hr hm
            refine ⟨hA1.defers, oneOf us', run_resultsRV fn fn.results.toList a1.tmps (by simp) us' h4, ?_⟩
            subst hr'
            exact ⟨G1, S1, _, one_sound h3, rfl⟩
          cases e1 with
          | normal =>
            obtain ⟨rfl, hA1⟩ := hx1
            simp only at hc
            split at hc
            · rename_i vs hm; cases hc; exact fin hA1 hm rfl
            · cases hc
          | ret =>
            obtain ⟨rfl, hA1⟩ := hx1
            simp only at hc
            split at hc
            · rename_i vs hm; cases hc; exact fin hA1 hm rfl
            · cases hc
          | exit id => cases hc
          | panic v =>
            cases hc
            obtain ⟨u, hu, rfl, hD⟩ := hx1
            exact ⟨hD, G1, S1, u, hu, rfl⟩
      · cases hc
    · cases hc
  · cases hc

theorem mcall_sound {hk : Hooks} {run : Code → St → Option (Ex × St)} (hng : NoNG P) (hh : HooksOK P B W0 hk) (hrun : RunOK P B W0 run) : CallOK P B W0 (mcall P hk run) := by
  intro f args h r hc
  unfold mcall at hc
  split at hc
  · rename_i g hg; exact hh f g hg args h r hc
  · intro G us w hx hr hg; exact .inl (mbody_sound hng hrun hc hx hr hg)
theorem mrun_sound (hmo : P.follows .mixedOrders = true) {hk : Hooks} (hng : NoNG P) (hh : HooksOK P B W0 hk) : ∀ n, RunOK P B W0 (mrun P hk n) ∧ LoopOK P B W0 (mrun P hk n) n
  | 0 => ⟨(fun _ _ _ _ h => by cases h), (fun _ _ _ _ h => by cases h)⟩
  | n + 1 => by
    obtain ⟨h1, h2⟩ := mrun_sound hmo hng hh n
    have h3 := mcode_sound hmo h1 (mcall_sound hng hh h1) h2
    exact ⟨h3, fun c st e st' hc G a w ha hr hg => loop_step h1 h2 hc ha hr hg⟩

/-- What M answers, the model answers. -/
theorem machine_sound (hmo : P.follows .mixedOrders = true) {hk : Hooks} (hng : NoNG P) (hh : HooksOK P B W0 hk) {n f : Nat} {args : List AV} {h : Heap} {r : CR} (hc : mbody P (mrun P hk n) f args h = some r) {G : Gh} {us : List Value} {w : World} (hx : VL G args us) (hr : HR G B h w) (hg : Glob P B W0 G w) :
    Calls P f us.toArray w (CROK G B w r) := (mbody_sound hng (mrun_sound hmo hng hh n).1 hc hx hr hg).1
end
end Go.Mx
