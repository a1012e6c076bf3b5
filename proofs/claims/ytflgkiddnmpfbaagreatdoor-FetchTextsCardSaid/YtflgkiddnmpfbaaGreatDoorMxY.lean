/- A row of things that the kernel reaches in few steps: a tree by the digits of the place. -/
namespace Go.Mx
inductive Tr (α : Type) where
  | leaf
  | node (v : α) (l r : Tr α)
def halve (k : Nat) : Nat := k / 2
def evn (k : Nat) : Bool := Nat.beq (k % 2) 0
section
variable {α : Type} [Inhabited α]
def Tr.get : Tr α → Nat → α
  | .leaf, _ => default
  | .node v _ _, 0 => v
  | .node _ l r, k + 1 => match evn k with
    | true => l.get (k / 2)
    | false => r.get (k / 2)
def Tr.set : Nat → Tr α → Nat → α → Tr α
  | 0, t, _, _ => t
  | _ + 1, .leaf, 0, x => .node x .leaf .leaf
  | f + 1, .leaf, k + 1, x => match evn k with
    | true => .node default (Tr.set f .leaf (k / 2) x) .leaf
    | false => .node default .leaf (Tr.set f .leaf (k / 2) x)
  | _ + 1, .node _ l r, 0, x => .node x l r
  | f + 1, .node v l r, k + 1, x => match evn k with
    | true => .node v (Tr.set f l (k / 2) x) r
    | false => .node v l (Tr.set f r (k / 2) x)
theorem half_eq {k j : Nat} (h : evn k = evn j) (h2 : k / 2 = j / 2) : k = j := by
  have h3 : (k % 2 = 0) ↔ (j % 2 = 0) := by
    have e : ∀ n, evn n = true ↔ n % 2 = 0 := fun n => by unfold evn; exact iff_of_eq Nat.beq_eq
    rw [← e, ← e, h]
  omega
theorem Tr.get_set : ∀ (f : Nat) (t : Tr α) (i : Nat) (x : α) (j : Nat), i < f → (Tr.set f t i x).get j = if i = j then x else t.get j
  | 0, _, _, _, _, h => by omega
  | f + 1, .leaf, 0, x, 0, h => rfl
  | f + 1, .leaf, 0, x, j + 1, h => by
    rw [if_neg (by omega)]
    simp only [Tr.set, Tr.get]
    split <;> rfl
  | f + 1, .node v l r, 0, x, 0, h => rfl
  | f + 1, .node v l r, 0, x, j + 1, h => by rw [if_neg (by omega)]; rfl
  | f + 1, .leaf, k + 1, x, 0, h => by
    rw [if_neg (by omega)]
    simp only [Tr.set]
    split <;> rfl
  | f + 1, .leaf, k + 1, x, j + 1, h => by
    simp only [Tr.set]
    have ih := Tr.get_set f (.leaf : Tr α) (k / 2) x (j / 2) (by omega)
    cases hk : evn k <;> cases hj : evn j <;> simp only [Tr.get, hj]
    · rw [ih]
      by_cases e : k = j
      · subst e; simp
      · rw [if_neg (fun q => e (half_eq (hk.trans hj.symm) q)), if_neg (by omega)]; rfl
    · rw [if_neg (fun q => by rw [Nat.succ.inj q, hj] at hk; cases hk)]
    · rw [if_neg (fun q => by rw [Nat.succ.inj q, hj] at hk; cases hk)]
    · rw [ih]
      by_cases e : k = j
      · subst e; simp
      · rw [if_neg (fun q => e (half_eq (hk.trans hj.symm) q)), if_neg (by omega)]; rfl
  | f + 1, .node v l r, k + 1, x, 0, h => by
    rw [if_neg (by omega)]
    simp only [Tr.set]
    split <;> rfl
  | f + 1, .node v l r, k + 1, x, j + 1, h => by
    simp only [Tr.set]
    cases hk : evn k <;> cases hj : evn j <;> simp only [Tr.get, hj]
    · rw [Tr.get_set f r (k / 2) x (j / 2) (by omega)]
      by_cases e : k = j
      · subst e; simp
      · rw [if_neg (fun q => e (half_eq (hk.trans hj.symm) q)), if_neg (by omega)]
    · rw [if_neg (fun q => by rw [Nat.succ.inj q, hj] at hk; cases hk)]
    · rw [if_neg (fun q => by rw [Nat.succ.inj q, hj] at hk; cases hk)]
    · rw [Tr.get_set f l (k / 2) x (j / 2) (by omega)]
      by_cases e : k = j
      · subst e; simp
      · rw [if_neg (fun q => e (half_eq (hk.trans hj.symm) q)), if_neg (by omega)]
end

/-- n things. -/
structure Arr (α : Type) where
  t : Tr α
  length : Nat
section
variable {α : Type} [Inhabited α]
def Arr.get? (a : Arr α) (i : Nat) : Option α := match Nat.blt i a.length with
  | true => some (a.t.get i)
  | false => none
def Arr.set (a : Arr α) (i : Nat) (x : α) : Arr α := match Nat.blt i a.length with
  | true => ⟨Tr.set (i + 1) a.t i x, a.length⟩
  | false => a
def Arr.push (a : Arr α) (x : α) : Arr α := ⟨Tr.set (a.length + 1) a.t a.length x, a.length + 1⟩
def Arr.app (a : Arr α) : List α → Arr α
  | [] => a
  | x :: l => (a.push x).app l
def Arr.nil : Arr α := ⟨.leaf, 0⟩
def Arr.of (l : List α) : Arr α := Arr.nil.app l
instance : HAppend (Arr α) (List α) (Arr α) := ⟨Arr.app⟩
instance : GetElem? (Arr α) Nat α (fun a i => i < a.length) where
  getElem a i _ := a.t.get i
  getElem? a i := a.get? i
variable {a : Arr α} {i j : Nat} {x y : α} {l : List α}
theorem Arr.get?_eq : a[i]? = if i < a.length then some (a.t.get i) else none := by
  show a.get? i = _
  unfold Arr.get?
  cases h : Nat.blt i a.length with
  | true => rw [if_pos (by simpa [Nat.blt_eq] using h)]
  | false => rw [if_neg (fun q => by rw [← Nat.blt_eq, h] at q; cases q)]
theorem Arr.lt (h : a[i]? = some x) : i < a.length := by
  rw [Arr.get?_eq] at h
  split at h
  · assumption
  · cases h
theorem Arr.some_of (h : i < a.length) : ∃ x, a[i]? = some x := ⟨_, by rw [Arr.get?_eq, if_pos h]⟩
theorem Arr.length_set : (a.set i x).length = a.length := by unfold Arr.set; split <;> rfl
theorem Arr.get_set : (a.set i x)[j]? = if i = j then (if i < a.length then some x else none) else a[j]? := by
  rw [Arr.get?_eq, Arr.get?_eq, Arr.length_set]
  unfold Arr.set
  cases h : Nat.blt i a.length with
  | true =>
    have h' : i < a.length := by simpa [Nat.blt_eq] using h
    simp only
    rw [Tr.get_set _ _ _ _ _ (by omega)]
    by_cases e : i = j
    · subst e; simp [h']
    · simp [e]
  | false =>
    have h' : ¬ i < a.length := fun q => by rw [← Nat.blt_eq, h] at q; cases q
    by_cases e : i = j
    · subst e; simp [h']
    · simp [e]
theorem Arr.get_set_self (h : i < a.length) : (a.set i x)[i]? = some x := by rw [Arr.get_set, if_pos rfl, if_pos h]
theorem Arr.get_set_ne (h : i ≠ j) : (a.set i x)[j]? = a[j]? := by rw [Arr.get_set, if_neg h]
theorem Arr.app_nil : a ++ ([] : List α) = a := rfl
theorem Arr.app_cons : a ++ (x :: l) = a.push x ++ l := rfl
theorem Arr.length_app : (a ++ l).length = a.length + l.length := by
  induction l generalizing a with
  | nil => rfl
  | cons x l ih => rw [Arr.app_cons, ih]; simp only [Arr.push, List.length_cons]; omega
theorem Arr.length_push : (a.push x).length = a.length + 1 := rfl
theorem Arr.get_push : (a.push x)[j]? = if j < a.length then a[j]? else if j = a.length then some x else none := by
  have hp : (a.push x).length = a.length + 1 := rfl
  have hg : (a.push x).t.get j = if a.length = j then x else a.t.get j := Tr.get_set _ _ _ _ _ (by omega)
  rw [Arr.get?_eq, Arr.get?_eq, hg]
  by_cases h : j < a.length
  · rw [if_pos (show j < (a.push x).length by omega), if_pos h, if_pos h, if_neg (by omega)]
  · rw [if_neg h]
    by_cases e : j = a.length
    · subst e; rw [if_pos (show a.length < (a.push x).length by omega), if_pos rfl, if_pos rfl]
    · rw [if_neg (show ¬ j < (a.push x).length by omega), if_neg e]
theorem Arr.get_app : (a ++ l)[j]? = if j < a.length then a[j]? else l[j - a.length]? := by
  induction l generalizing a with
  | nil =>
    rw [Arr.app_nil]
    split
    · rfl
    · rw [Arr.get?_eq, if_neg (by assumption)]; simp
  | cons x l ih =>
    rw [Arr.app_cons, ih, Arr.get_push]
    have hp : (a.push x).length = a.length + 1 := rfl
    by_cases h : j < a.length
    · rw [if_pos (show j < (a.push x).length by omega), if_pos h, if_pos h]
    · rw [if_neg h, if_neg h]
      by_cases e : j = a.length
      · subst e; rw [if_pos (show a.length < (a.push x).length by omega), if_pos rfl]; simp
      · rw [if_neg (show ¬ j < (a.push x).length by omega), hp]
        obtain ⟨k, hk⟩ : ∃ k, j - a.length = k + 1 := ⟨j - a.length - 1, by omega⟩
        rw [hk, List.getElem?_cons_succ]; congr 1; omega
theorem Arr.get_app_left (h : j < a.length) : (a ++ l)[j]? = a[j]? := by rw [Arr.get_app, if_pos h]
theorem Arr.get_app_right (h : a.length ≤ j) : (a ++ l)[j]? = l[j - a.length]? := by rw [Arr.get_app, if_neg (by omega)]
theorem Arr.length_of : (Arr.of l).length = l.length := by
  have : (Arr.of l).length = (Arr.nil : Arr α).length + l.length := Arr.length_app
  rw [this]; show 0 + _ = _; omega
theorem Arr.get_of : (Arr.of l)[j]? = l[j]? := by
  have : (Arr.of l)[j]? = _ := Arr.get_app (a := Arr.nil)
  rw [this, if_neg (by show ¬ j < 0; omega)]
  congr 1
/-- Each thing, turned. -/
def Tr.map (f : α → α) : Tr α → Tr α
  | .leaf => .leaf
  | .node v l r => .node (f v) (l.map f) (r.map f)
theorem Tr.get_map {f : α → α} (hf : f default = default) : ∀ (t : Tr α) (i : Nat), (t.map f).get i = f (t.get i)
  | .leaf, _ => hf.symm
  | .node v l r, 0 => rfl
  | .node v l r, k + 1 => by
    simp only [Tr.map, Tr.get]
    cases evn k
    · exact Tr.get_map hf r _
    · exact Tr.get_map hf l _
def Arr.map (a : Arr α) (f : α → α) : Arr α := ⟨a.t.map f, a.length⟩
theorem Arr.get_map {f : α → α} (hf : f default = default) : (a.map f)[i]? = (a[i]?).map f := by
  have hl : (a.map f).length = a.length := rfl
  have hg : (a.map f).t.get i = f (a.t.get i) := Tr.get_map hf _ _
  rw [Arr.get?_eq, Arr.get?_eq, hg, hl]
  split <;> rfl
/-- As a list. -/
def Arr.toL (a : Arr α) : List α := (List.range a.length).map fun i => a.t.get i
theorem Arr.get_toL : a.toL[i]? = a[i]? := by
  rw [Arr.get?_eq]
  unfold Arr.toL
  split
  · rename_i h; simp [h]
  · rename_i h; simp [h]
theorem Arr.toL_length : a.toL.length = a.length := by simp [Arr.toL]
theorem Arr.toL_of : (Arr.of l).toL = l := List.ext_getElem? fun i => by rw [Arr.get_toL, Arr.get_of]
theorem Arr.get_none (h : a[i]? = none) : a.length ≤ i := by
  rcases Nat.lt_or_ge i a.length with hl | hl
  · obtain ⟨x, hx⟩ := Arr.some_of hl
    rw [hx] at h; cases h
  · exact hl
end
end Go.Mx
