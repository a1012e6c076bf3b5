/- Joins, guards, the frame of a function; slices that a call makes. -/
import Derived.Test.YtfkgbpkgggaphaaGreatDoorGxE
namespace Go.Gx
open Go

def upds (ρ0 : Env) : List (Nat × Value) → Env
  | [] => ρ0
  | p :: l => upd (upds ρ0 l) p.1 p.2
def Agr (E : Env) : List (Nat × Value) → Prop
  | [] => True
  | p :: l => E p.1 = p.2 ∧ Agr E l
theorem upds_self {E : Env} : ∀ {l : List (Nat × Value)}, Agr E l → upds E l = E
  | [], _ => rfl
  | p :: l, h => by
    show upd (upds E l) p.1 p.2 = E
    rw [upds_self h.2]
    funext k
    unfold upd
    split
    · rename_i e; subst e; exact h.1.symm
    · rfl

def startEnv (args : List Value) : Env := fun t => args.getD t undef
def retVal (ρ : Env) : List Nat → Value
  | [t] => ρ t
  | ts => .tuple (ts.map ρ).toArray
def fQ (ts : List Nat) (R : Ending → World → Prop) : Exit → Env → World → Prop
  | .normal, ρ, w | .ret, ρ, w => R (.returned (retVal ρ ts)) w
  | .panic chain, _, w => R (.panicked chain) w
  | _, _, _ => False

section
variable {P : Program} {n : Nat} {Q : Exit → Env → World → Prop} {ρ : Env} {w : World} {ops : Array Oper} {rest : List Oper} {d : Nat} {ty : TypeId} {pos : String} {after : Array Edge}
  {x y c : Operand} {t t' : TypeId} {O0 K O : List Nat} {w0 : World} {L : List Fact} {τ : Type} {r : Rp τ}

theorem run_results (fn : Func) (ts : List Nat) (tmps : Array Value) (hr : fn.results = (ts.map ResultVar.tmp).toArray) :
    (results fn tmps).run P w = .ok (retVal (fun t => tmps.getD t undef) ts) w := by
  have h1 : ∀ (f : ResultVar → Sem Value), (∀ t, f (.tmp t) = pure (tmps.getD t undef)) → ∀ (l : List Nat), (List.mapM f (l.map ResultVar.tmp)).run P w = .ok (l.map fun t => tmps.getD t undef) w := by
    intro f hf l
    induction l with
    | nil => rfl
    | cons t l ih => simp only [List.map_cons, List.mapM_cons, Sem.run_bind, Sem.run_pure, Result.andThen_ok, ih, hf]
  unfold results
  rw [hr, Sem.run_bind, List.mapM_toArray, Sem.run_map, h1 _ (fun _ => rfl)]
  simp only [Result.andThen_ok, Sem.run_pure]
  match ts with
  | [] => simp [retVal]
  | [t] => simp [retVal]
  | a :: b :: l => simp [retVal]

theorem calls_of_W {f : FuncId} {fn : Func} {cd : Code} {ts : List Nat} {args : List Value} {R : Ending → World → Prop} (hf : P.funcs[f]? = some fn) (hb : fn.body = some cd) (hr : fn.results = (ts.map ResultVar.tmp).toArray)
    (hn : fn.ntmps = n) (hsz : args.length ≤ n) (h : W P n cd (fQ ts R) (startEnv args) w) : Calls P f args.toArray w R := by
  refine calls_of_wp hf hb ?_
  subst hn
  have hH : Holds fn.ntmps (startEnv args) { tmps := args.toArray ++ Array.replicate (fn.ntmps - args.toArray.size) undef, defers := [] } := by
    refine ⟨rfl, by simp; omega, ?_⟩
    funext k
    simp only [envOf, startEnv, Array.getD_eq_getD_getElem?, List.getD_eq_getElem?_getD, Array.getElem?_append, List.size_toArray, List.getElem?_toArray]
    split
    · rfl
    · rename_i hk
      rw [List.getElem?_eq_none (by omega), Array.getElem?_replicate]
      split <;> rfl
  refine wp_mono (h _ hH) fun e a w' q => ?_
  obtain ⟨q1, q2⟩ := q
  cases e with
  | normal => exact ⟨q1.defers, _, run_results fn ts a.tmps hr, q2⟩
  | ret => exact ⟨q1.defers, _, run_results fn ts a.tmps hr, q2⟩
  | panic chain => exact ⟨q1.defers, q2⟩
  | _ => exact q2.elim

/-- x, then y; several ways lead from x to y. -/
theorem W_joinS {x y : Code} (S : Type) (Pre : S → Env → World → Prop) (hx : ∀ K : Env → World → Prop, (∀ s ρ w, Pre s ρ w → K ρ w) → W P n x (thenQ K Q) ρ w)
    (hy : ∀ s ρ w, Pre s ρ w → W P n y Q ρ w) : W P n (.seq x y) Q ρ w :=
  W_join (fun ρ w => ∃ s, Pre s ρ w) (hx _ fun s _ _ h => ⟨s, h⟩) fun _ _ ⟨s, h⟩ => hy s _ _ h

/-- The same at the end of a block, of a loop's body ..: what follows is Q itself. -/
theorem W_cutS {x : Code} (S : Type) (Pre : S → Env → World → Prop) (hx : ∀ K : Env → World → Prop, (∀ s ρ w, Pre s ρ w → K ρ w) → W P n x (thenQ K Q) ρ w)
    (hy : ∀ s ρ w, Pre s ρ w → Q .normal ρ w) : W P n x Q ρ w :=
  W_cut (fun ρ w => ∃ s, Pre s ρ w) (hx _ fun s _ _ h => ⟨s, h⟩) fun _ _ ⟨s, h⟩ => hy s _ _ h

theorem yielded_of {j dj : Nat} {o : Oper} {e : Bool} (ho : ops[j]? = some o) (hd : o.dst = some dj) (hv : ρ dj = .bool e) {a : Act} (ha : Holds n ρ a) : yielded ops a.tmps j = some e := by
  have h1 : a.tmps.getD dj undef = .bool e := by rw [← hv, ← ha.env]; rfl
  have h2 : a.tmps[dj]? = some (.bool e) := by
    rw [Array.getD_eq_getD_getElem?] at h1
    cases h : a.tmps[dj]? with
    | none => rw [h] at h1; simp [undef] at h1
    | some v => rw [h] at h1; simp at h1; rw [h1]
  simp [yielded, ho, hd, h2]

theorem WL_yes {j dj : Nat} {o : Oper} {e want : Bool} {dst : Option Nat} {op : Op} (ho : ops[j]? = some o) (hd : o.dst = some dj) (hv : ρ dj = .bool e) (he : e = want)
    (h : WL P n ops (⟨dst, op, ty, pos, after, none⟩ :: rest) Q ρ w) : WL P n ops (⟨dst, op, ty, pos, after, some (j, want)⟩ :: rest) Q ρ w := by
  intro a ha
  have hy := yielded_of ho hd hv ha
  have := h a ha
  unfold wpList at this ⊢
  rw [if_pos (by simp [Region.wanted])] at this
  rw [if_pos (by simp [Region.wanted, hy, he])]
  exact this

theorem WL_no {j dj d : Nat} {o : Oper} {e want : Bool} {op : Op} (ho : ops[j]? = some o) (hdj : o.dst = some dj) (hv : ρ dj = .bool e) (he : (e == want) = false) (hd : d < n)
    (h : WL P n ops rest Q (upd ρ d undef) w) : WL P n ops (⟨some d, op, ty, pos, after, some (j, want)⟩ :: rest) Q ρ w := by
  intro a ha
  have hy := yielded_of ho hdj hv ha
  unfold wpList
  rw [if_neg (by simp [Region.wanted, hy]; intro h; rw [h] at he; simp at he)]
  exact h _ (ha.put hd _)

/-- The guard's own operation was not carried out. -/
theorem WL_no' {j dj d : Nat} {o : Oper} {want : Bool} {op : Op} (ho : ops[j]? = some o) (hdj : o.dst = some dj) (hv : ρ dj = undef) (hd : d < n)
    (h : WL P n ops rest Q (upd ρ d undef) w) : WL P n ops (⟨some d, op, ty, pos, after, some (j, want)⟩ :: rest) Q ρ w := by
  intro a ha
  have hy : yielded ops a.tmps j = none := by
    have h1 : envOf a dj = undef := by rw [ha.env]; exact hv
    unfold envOf at h1
    rw [Array.getD_eq_getD_getElem?] at h1
    cases h : a.tmps[dj]? with
    | none => simp [yielded, ho, hdj, h]
    | some v => rw [h] at h1; simp at h1; simp [yielded, ho, hdj, h, h1, undef]
  unfold wpList
  rw [if_neg (by simp [Region.wanted, hy])]
  exact h _ (ha.put hd _)
end
end Go.Gx
