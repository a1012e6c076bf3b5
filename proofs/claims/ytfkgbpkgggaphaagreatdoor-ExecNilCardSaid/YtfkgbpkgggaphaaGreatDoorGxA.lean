/- The calculus of walks: an environment in place of the array of temporaries. -/
import Derived.Tactics
import Derived.LoopN
import Derived.Laws.Slices
import Derived.Laws.Strings
import Derived.Laws.Rows
import Derived.Laws.AppendOwn
namespace Go.Gx
open Go

abbrev Env := Nat → Value
def upd (ρ : Env) (t : Nat) (v : Value) : Env := fun k => if k = t then v else ρ k
def ev (ρ : Env) : Operand → Value
  | .tmp t => ρ t
  | .const v => v
  | .global g => .pointer (some ⟨g, 0, none⟩)
  | .func f => .func (.func f) #[] #[]
def envOf (a : Act) : Env := fun t => a.tmps.getD t undef

theorem ev_envOf (a : Act) : ev (envOf a) = a.eval := by
  funext x; cases x <;> rfl

/-- The act a has n temporaries that hold ρ, and no deferred calls. -/
structure Holds (n : Nat) (ρ : Env) (a : Act) : Prop where
  defers : a.defers = []
  size : a.tmps.size = n
  env : envOf a = ρ

theorem Holds.put {n : Nat} {ρ : Env} {a : Act} (h : Holds n ρ a) {d : Nat} (hd : d < n) (v : Value) : Holds n (upd ρ d v) (a.put (some d) v) := by
  obtain ⟨h1, h2, h3⟩ := h
  refine ⟨h1, by simp [Act.put, h2], ?_⟩
  subst h3
  funext k
  simp only [envOf, Act.put, upd, Array.getD_eq_getD_getElem?, Array.getElem?_setIfInBounds]
  by_cases hk : d = k
  · subst hk; simp [h2, hd]
  · rw [if_neg hk, if_neg (fun e => hk e.symm)]

def Post (n : Nat) (Q : Exit → Env → World → Prop) : Exit → Act → World → Prop := fun e a w => Holds n (envOf a) a ∧ Q e (envOf a) w

/-- The walk of a piece of code. -/
def W (P : Program) (n : Nat) (c : Code) (Q : Exit → Env → World → Prop) (ρ : Env) (w : World) : Prop :=
  ∀ a, Holds n ρ a → c.wp P (Post n Q) a w

/-- The walk of a list of operations. -/
def WL (P : Program) (n : Nat) (ops : Array Oper) (l : List Oper) (Q : Exit → Env → World → Prop) (ρ : Env) (w : World) : Prop :=
  ∀ a, Holds n ρ a → wpList P ops (Post n Q) l a w

def thenQ (K : Env → World → Prop) (Q : Exit → Env → World → Prop) : Exit → Env → World → Prop
  | .normal, ρ, w => K ρ w
  | e, ρ, w => Q e ρ w
def blockQ (id : Nat) (Q : Exit → Env → World → Prop) : Exit → Env → World → Prop
  | .exit id', ρ, w => if id' = id then Q .normal ρ w else Q (.exit id') ρ w
  | e, ρ, w => Q e ρ w

section
variable {P : Program} {n : Nat} {Q : Exit → Env → World → Prop} {ρ : Env} {w : World}

theorem Post.then_mono {K : Env → World → Prop} {y : Code} (hy : ∀ ρ w, K ρ w → W P n y Q ρ w) :
    ∀ e a w, Post n (thenQ K Q) e a w → Exit.then (y.wp P (Post n Q)) (Post n Q) e a w := by
  intro e a w h
  cases e with
  | normal => exact hy _ _ h.2 a h.1
  | _ => exact h

theorem W.mono {c : Code} {Q' : Exit → Env → World → Prop} (h : W P n c Q ρ w) (hq : ∀ e ρ w, Q e ρ w → Q' e ρ w) : W P n c Q' ρ w :=
  fun a ha => wp_mono (h a ha) fun _ _ _ q => ⟨q.1, hq _ _ _ q.2⟩

/-- x, then y, with what holds between them. -/
theorem W_join {x y : Code} (K : Env → World → Prop) (hx : W P n x (thenQ K Q) ρ w) (hy : ∀ ρ w, K ρ w → W P n y Q ρ w) : W P n (.seq x y) Q ρ w :=
  fun a ha => wp_seq (wp_mono (hx a ha) (Post.then_mono hy))

theorem W_seq {x y : Code} (hx : W P n x (thenQ (W P n y Q) Q) ρ w) : W P n (.seq x y) Q ρ w :=
  W_join (W P n y Q) hx fun _ _ h => h

theorem W_skip (h : Q .normal ρ w) : W P n .skip Q ρ w := fun a ha => wp_skip ⟨by rw [ha.env]; exact ha, by rw [ha.env]; exact h⟩
theorem W_label {l : Nat} (h : Q .normal ρ w) : W P n (.label l) Q ρ w := fun a ha => wp_label ⟨by rw [ha.env]; exact ha, by rw [ha.env]; exact h⟩
theorem W_ret (h : Q .ret ρ w) : W P n .ret Q ρ w := fun a ha => wp_ret ⟨by rw [ha.env]; exact ha, by rw [ha.env]; exact h⟩
theorem W_exit {id : Nat} (h : Q (.exit id) ρ w) : W P n (.exit id) Q ρ w := fun a ha => wp_exit ⟨by rw [ha.env]; exact ha, by rw [ha.env]; exact h⟩

theorem W_cond {c : Operand} {x y : Code} {t : Bool} (hc : ev ρ c = .bool t) (ht : t = true → W P n x Q ρ w) (hf : t = false → W P n y Q ρ w) : W P n (.cond c x y) Q ρ w := by
  intro a ha
  have hc' : a.eval c = .bool t := by rw [← ev_envOf, ha.env]; exact hc
  exact wp_cond_split hc' (fun h => ht h a ha) (fun h => hf h a ha)

theorem W_block {id : Nat} {c : Code} (h : W P n c (blockQ id Q) ρ w) : W P n (.block id c) Q ρ w :=
  fun a ha => wp_block (wp_mono (h a ha) fun e a w q => by
    cases e with
    | exit id' =>
      simp only [Exit.inBlock, Post, blockQ] at q ⊢
      split <;> rename_i hid
      · rw [if_pos hid] at q; exact q
      · rw [if_neg hid] at q; exact q
    | _ => exact q)

def WR (P : Program) (n : Nat) (c : Code) (Q : Exit → Env → World → Prop) : Nat → Env → World → Prop
  | 0, _, _ => False
  | m + 1, ρ, w => W P n c (thenQ (WR P n c Q m) Q) ρ w

theorem WR.rounds {c : Code} : ∀ (m : Nat) {ρ : Env} {w : World} {a : Act}, Holds n ρ a → WR P n c Q m ρ w → Code.rounds P c (Post n Q) m a w
  | 0, _, _, _, _, h => h.elim
  | m + 1, ρ, w, a, ha, h => by
    rw [rounds_succ]
    refine wp_mono (h a ha) fun e a' w' q => ?_
    cases e with
    | normal => exact WR.rounds m q.1 q.2
    | _ => exact q

theorem W_rounds {c : Code} (m : Nat) (h : WR P n c Q m ρ w) : W P n (.loop c) Q ρ w :=
  fun _ ha => wp_loop_rounds m (WR.rounds m ha h)

/-- A loop that a function with fuel follows. -/
theorem W_loop {c : Code} {S R : Type} (Fl : Nat → S → Option R) (Pre : S → Env → World → Prop) (N : Nat) (s : S) (r : R) (hz : ∀ s, Fl 0 s = none)
    (h0 : Fl N s = some r) (hp : Pre s ρ w)
    (step : ∀ (K : Env → World → Prop) (m : Nat) (s : S) (ρ : Env) (w : World), (∀ s' ρ' w', Fl m s' = some r → Pre s' ρ' w' → K ρ' w') →
      Fl (m + 1) s = some r → Pre s ρ w → W P n c (thenQ K Q) ρ w) : W P n (.loop c) Q ρ w := by
  refine W_rounds N ?_
  induction N generalizing s ρ w with
  | zero => rw [hz] at h0; cases h0
  | succ m ih => exact step (WR P n c Q m) m s ρ w (fun s' ρ' w' h hp' => ih s' h hp') h0 hp

/-- A region whose order is the text's. -/
theorem W_region {id : Nat} {l : List Oper} (h : WL P n l.toArray l Q ρ w) : W P n (.region id l.toArray false) Q ρ w :=
  fun a ha => wp_region_lit (h a ha)

theorem WL_nil {ops : Array Oper} (h : Q .normal ρ w) : WL P n ops [] Q ρ w := fun a ha => ⟨by rw [ha.env]; exact ha, by rw [ha.env]; exact h⟩

/-- What holds behind a piece of code, taken together (the ways meet again). -/
theorem W_cut {c : Code} (K : Env → World → Prop) (hx : W P n c (thenQ K Q) ρ w) (hk : ∀ ρ w, K ρ w → Q .normal ρ w) : W P n c Q ρ w :=
  hx.mono fun e ρ w q => by cases e with | normal => exact hk _ _ q | _ => exact q

/-- One operation that hands back a value. -/
theorem WL_value {ops : Array Oper} {rest : List Oper} {d : Nat} {op : Op} {ty : TypeId} {pos : String} {after : Array Edge} {v : Value} {w' : World} (hd : d < n)
    (hrun : ∀ dst ty pos after g, (execOp (ev ρ) ⟨dst, op, ty, pos, after, g⟩).run P w = .ok (.value v) w')
    (h : WL P n ops rest Q (upd ρ d v) w') : WL P n ops (⟨some d, op, ty, pos, after, none⟩ :: rest) Q ρ w := by
  intro a ha
  refine wpList_plain rfl fun K hK => ?_
  have := hrun (some d) ty pos after none
  rw [← ha.env, ev_envOf] at this
  unfold Oper.wp
  rw [this]
  exact hK _ _ (h _ (ha.put hd v))
end
end Go.Gx
