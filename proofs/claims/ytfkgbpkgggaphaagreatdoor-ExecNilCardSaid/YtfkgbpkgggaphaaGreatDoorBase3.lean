/- The calculus of walks and the machines, part 3. -/
import Derived.Test.YtfkgbpkgggaphaaGreatDoorBase2
/- The symbolic machine S: its heap, and M's. -/
set_option linter.unusedVariables false
namespace Go.Sx
open Go Go.Gx Go.Mx

def SB.md : SB → Nat
  | .cells _ m => m
  | .seq _ _ _ m => m
  | .map _ _ m => m
  | .kv _ _ _ m => m
  | .gone => 1
def RB (X : Gst) : SB → Option (Nat × Nat) → Prop
  | .cells l _, o => ∃ m l' tt, o = some (m, 0) ∧ X.h[m]? = some (.row l' 0 0 0 false tt) ∧ RVs X l l'
  | .seq u l k md, none => l = []
  | .seq u l k md, some (m, ver) => ∃ cells minv tt, X.h[m]? = some (.row cells ver minv 0 false tt) ∧ minv ≤ ver ∧ RCs X.h X.Φ u l cells ∧ (md = 2 → X.Φ m)
  | .map ks vs _, o => ∃ m es, o = some (m, 0) ∧ X.h[m]? = some (.map es) ∧ RVs X ks (es.map (·.1)) ∧ RVs X vs (es.map (·.2))
  | .kv u v l _, o => ∃ m es, o = some (m, 0) ∧ X.h[m]? = some (.map es) ∧ RVs X (kvK u v l) (es.map (·.1)) ∧ RVs X (kvV u v l) (es.map (·.2))
  | .gone, _ => True
structure RH (X : Gst) : Prop where
  len : X.σ.length = X.sh.length
  inj : ∀ (i j m v v' : Nat), X.σ[i]? = some (some (m, v)) → X.σ[j]? = some (some (m, v')) → i = j
  lt : ∀ (i m v : Nat), X.σ[i]? = some (some (m, v)) → m < X.h.length
  Φlt : ∀ m, X.Φ m → m < X.h.length
  blk : ∀ (i : Nat) (b : SB) (o : Option (Nat × Nat)), X.sh[i]? = some b → X.σ[i]? = some o → RB X b o
  own : ∀ (i m v : Nat) (b : SB), X.sh[i]? = some b → X.σ[i]? = some (some (m, v)) → X.Φ m → b.md = 2 ∨ b = .gone
/-- What stays. -/
structure Fm (X Y : Gst) : Prop where
  len : X.h.length ≤ Y.h.length
  h : ∀ m, m < X.h.length → (∀ (i v : Nat) (b : SB), X.sh[i]? = some b → X.σ[i]? = some (some (m, v)) → b.md ≠ 0) → Y.h[m]? = X.h[m]?
  md : ∀ (i : Nat) (b : SB), X.sh[i]? = some b → b.md ≠ 0 → ∃ b', Y.sh[i]? = some b' ∧ b'.md ≠ 0
  new : ∀ (i m v : Nat), Y.σ[i]? = some (some (m, v)) → m < X.h.length → ∃ v', X.σ[i]? = some (some (m, v'))
  gone : ∀ (i : Nat), X.sh[i]? = some .gone → Y.sh[i]? = some .gone ∧ Y.σ[i]? = X.σ[i]?
  phi : ∀ m, m < X.h.length → Y.Φ m → X.Φ m ∨ ∃ (i v : Nat) (b : SB), X.sh[i]? = some b ∧ X.σ[i]? = some (some (m, v)) ∧ b ≠ .gone
structure Stp (X Y : Gst) : Prop where
  le : X.le Y
  hr : RH Y
  fm : Fm X Y
theorem Fm.trans {a b c : Gst} (ha : a.le b) (p : Fm a b) (q : Fm b c) (hl : a.σ.length = a.sh.length) : Fm a c := by
  refine ⟨Nat.le_trans p.len q.len, fun m hm hx => ?_, fun i b hb hm => ?_, fun i m v h hm => ?_, fun i h => ⟨(q.gone i (p.gone i h).1).1, (q.gone i (p.gone i h).1).2.trans (p.gone i h).2⟩, fun m hm hΦ => ?_⟩
  · rw [← p.h m hm hx]
    refine q.h m (Nat.lt_of_lt_of_le hm p.len) fun i v b' hb' hs => ?_
    obtain ⟨v', hv'⟩ := p.new i m v hs hm
    have hi : i < a.sh.length := by rw [← hl]; exact (List.getElem?_eq_some_iff.1 hv').1
    have hb0 := hx i v' a.sh[i] (List.getElem?_eq_getElem hi) hv'
    obtain ⟨b2, h1, h2⟩ := p.md i _ (List.getElem?_eq_getElem hi) hb0
    rw [hb'] at h1; cases h1; exact h2
  · obtain ⟨b2, h1, h2⟩ := p.md i b hb hm
    exact q.md i b2 h1 h2
  · obtain ⟨v', hv'⟩ := q.new i m v h (Nat.lt_of_lt_of_le hm p.len)
    exact p.new i m v' hv' hm
  · rcases q.phi m (Nat.lt_of_lt_of_le hm p.len) hΦ with h | ⟨i, v, b', h1, h2, h3⟩
    · exact p.phi m hm h
    · obtain ⟨v', hv'⟩ := p.new i m v h2 hm
      have hi : i < a.sh.length := by rw [← hl]; exact (List.getElem?_eq_some_iff.1 hv').1
      refine .inr ⟨i, v', a.sh[i], List.getElem?_eq_getElem hi, hv', fun e => ?_⟩
      have := (p.gone i (by rw [List.getElem?_eq_getElem hi, e])).1
      rw [h1] at this; cases this; exact h3 rfl
theorem Stp.trans {a b c : Gst} (p : Stp a b) (q : Stp b c) : Stp a c := ⟨Gst.le_trans p.le q.le, q.hr, p.fm.trans p.le q.fm p.le.shl⟩
theorem Stp.refl {a : Gst} (h : RH a) : Stp a a := ⟨Gst.le_refl h.len, h, Nat.le_refl _, fun _ _ _ => rfl, fun i b hb hm => ⟨b, hb, hm⟩, fun i m v h _ => ⟨v, h⟩, fun _ h => ⟨h, rfl⟩, fun _ _ h => .inl h⟩
theorem RB.le {X Y : Gst} (hl : X.le Y) {b : SB} {o : Option (Nat × Nat)} (h : RB X b o) (hh : ∀ m v, o = some (m, v) → Y.h[m]? = X.h[m]?) : RB Y b o := by
  cases b with
  | cells l md => obtain ⟨m, l', tt, rfl, h1, h2⟩ := h; exact ⟨m, l', tt, rfl, (hh _ _ rfl).trans h1, h2.le hl⟩
  | seq u l k md =>
    cases o with
    | none => exact h
    | some p => obtain ⟨m, ver⟩ := p; obtain ⟨cells, minv, tt, h1, h2, h3, h4⟩ := h; exact ⟨cells, minv, tt, (hh _ _ rfl).trans h1, h2, h3.le hl.h hl.Φ, fun e => hl.Φ _ (h4 e)⟩
  | map ks vs md => obtain ⟨m, es, rfl, h1, h2, h3⟩ := h; exact ⟨m, es, rfl, (hh _ _ rfl).trans h1, h2.le hl, h3.le hl⟩
  | kv u v l md => obtain ⟨m, es, rfl, h1, h2, h3⟩ := h; exact ⟨m, es, rfl, (hh _ _ rfl).trans h1, h2.le hl, h3.le hl⟩
  | gone => trivial
theorem get_push {α : Type} {l : List α} {x y : α} {j : Nat} (h : (l ++ [x])[j]? = some y) : l[j]? = some y ∨ (j = l.length ∧ x = y) := by
  rw [List.getElem?_append] at h
  split at h
  · exact .inl h
  · rename_i hl
    cases he : j - l.length with
    | zero => rw [he] at h; simp at h; exact .inr ⟨by omega, h⟩
    | succ n => rw [he] at h; simp at h
theorem get_set {α : Type} {l : List α} {x y : α} {i j : Nat} (h : (l.set i x)[j]? = some y) : (j = i ∧ x = y) ∨ (j ≠ i ∧ l[j]? = some y) := by
  by_cases e : j = i
  · subst e
    have hl := (List.getElem?_eq_some_iff.1 h).1
    rw [List.length_set] at hl
    rw [List.getElem?_set_self hl] at h
    exact .inl ⟨rfl, Option.some.inj h⟩
  · rw [List.getElem?_set_ne (Ne.symm e)] at h; exact .inr ⟨e, h⟩

/-- A new block. -/
theorem Stp.push {X : Gst} (hr : RH X) {b : SB} {blk : Blk} (hmd : b.md ≠ 2)
    (hB : X.le ⟨X.h ++ [blk], X.Φ, X.σ ++ [some (X.h.length, 0)], X.sh ++ [b]⟩ → RB ⟨X.h ++ [blk], X.Φ, X.σ ++ [some (X.h.length, 0)], X.sh ++ [b]⟩ b (some (X.h.length, 0))) :
    Stp X ⟨X.h ++ [blk], X.Φ, X.σ ++ [some (X.h.length, 0)], X.sh ++ [b]⟩ := by
  have hh : ∀ m, m < X.h.length → (X.h ++ [blk])[m]? = X.h[m]? := fun m hm => Arr.get_app_left hm
  have hσ : ∀ (i : Nat), i < X.σ.length → (X.σ ++ [some (X.h.length, 0)])[i]? = X.σ[i]? := fun i hi => List.getElem?_append_left hi
  have hle : X.le ⟨X.h ++ [blk], X.Φ, X.σ ++ [some (X.h.length, 0)], X.sh ++ [b]⟩ := by
    refine ⟨fun m hm => hh m (hr.Φlt m hm), fun _ h => h, by simp, fun loc m v h => ⟨v, ?_⟩, fun loc u l k md hl hs => ?_, hr.len⟩
    · rw [hσ _ (List.getElem?_eq_some_iff.1 h).1]; exact h
    · dsimp only at hs
      rw [List.getElem?_append_left hl] at hs
      exact ⟨l, k, md, hs, Nat.le_refl _, fun _ => ⟨rfl, hσ _ (by rw [hr.len]; exact hl)⟩⟩
  refine ⟨hle, ⟨by simp [hr.len], fun i j m v v' h1 h2 => ?_, fun i m v h1 => ?_, fun m hm => ?_, fun i b' o h1 h2 => ?_, fun i m v b' h1 h2 h3 => ?_⟩, ⟨?_, fun m hm _ => hh m hm, fun i b' hb hm => ⟨b', ?_, hm⟩, fun i m v h1 hm => ?_, fun i h => ⟨(List.getElem?_append_left (List.getElem?_eq_some_iff.1 h).1).trans h, hσ _ (by rw [hr.len]; exact (List.getElem?_eq_some_iff.1 h).1)⟩, fun _ _ h => .inl h⟩⟩
  · rcases get_push h1 with q1 | ⟨e1, q1⟩ <;> rcases get_push h2 with q2 | ⟨e2, q2⟩
    · exact hr.inj _ _ _ _ _ q1 q2
    · cases q2; exact absurd (hr.lt _ _ _ q1) (Nat.lt_irrefl _)
    · cases q1; exact absurd (hr.lt _ _ _ q2) (Nat.lt_irrefl _)
    · exact e1.trans e2.symm
  · show m < (X.h ++ [blk]).length
    rw [Arr.length_app]
    rcases get_push h1 with h1 | ⟨_, h1⟩
    · have := hr.lt _ _ _ h1; simp; omega
    · cases h1; simp
  · show m < (X.h ++ [blk]).length
    have := hr.Φlt m hm; rw [Arr.length_app]; simp; omega
  · rcases get_push h1 with h1 | ⟨rfl, rfl⟩
    · have hi := (List.getElem?_eq_some_iff.1 h1).1
      dsimp only at h2
      rw [hσ _ (by rw [hr.len]; exact hi)] at h2
      exact (hr.blk i b' o h1 h2).le hle fun m v e => hh m (hr.lt i m v (e ▸ h2))
    · dsimp only at h2
      rw [← hr.len, List.getElem?_append_right (Nat.le_refl _)] at h2
      simp at h2; subst h2; exact hB hle
  · rcases get_push h1 with h1 | ⟨rfl, rfl⟩
    · have hi := (List.getElem?_eq_some_iff.1 h1).1
      dsimp only at h2
      rw [hσ _ (by rw [hr.len]; exact hi)] at h2
      exact hr.own i m v b' h1 h2 h3
    · dsimp only at h2
      rw [← hr.len, List.getElem?_append_right (Nat.le_refl _)] at h2
      simp at h2
      obtain ⟨rfl, rfl⟩ := h2
      exact absurd (hr.Φlt _ h3) (Nat.lt_irrefl _)
  · show _ ≤ (X.h ++ [blk]).length
    rw [Arr.length_app]; omega
  · show (X.sh ++ [b])[i]? = _
    rw [List.getElem?_append_left (List.getElem?_eq_some_iff.1 hb).1]; exact hb
  · rcases get_push h1 with q1 | ⟨_, q1⟩
    · exact ⟨v, q1⟩
    · cases q1; exact absurd hm (Nat.lt_irrefl _)
/-- A new block that M does not make: a row of no elements. -/
theorem Stp.pushV {X : Gst} (hr : RH X) {b : SB} (hmd : b.md ≠ 2) (hB : ∀ Y, RB Y b none) : Stp X ⟨X.h, X.Φ, X.σ ++ [none], X.sh ++ [b]⟩ := by
  have hσ : ∀ (i : Nat), i < X.σ.length → (X.σ ++ [none])[i]? = X.σ[i]? := fun i hi => List.getElem?_append_left hi
  have hle : X.le ⟨X.h, X.Φ, X.σ ++ [none], X.sh ++ [b]⟩ := by
    refine ⟨fun m hm => rfl, fun _ h => h, by simp, fun loc m v h => ⟨v, ?_⟩, fun loc u l k md hl hs => ?_, hr.len⟩
    · rw [hσ _ (List.getElem?_eq_some_iff.1 h).1]; exact h
    · dsimp only at hs
      rw [List.getElem?_append_left hl] at hs
      exact ⟨l, k, md, hs, Nat.le_refl _, fun _ => ⟨rfl, hσ _ (by rw [hr.len]; exact hl)⟩⟩
  refine ⟨hle, ⟨by simp [hr.len], fun i j m v v' h1 h2 => ?_, fun i m v h1 => ?_, hr.Φlt, fun i b' o h1 h2 => ?_, fun i m v b' h1 h2 h3 => ?_⟩, ⟨Nat.le_refl _, fun m hm _ => rfl, fun i b' hb hm => ⟨b', ?_, hm⟩, fun i m v h1 hm => ?_, fun i h => ⟨(List.getElem?_append_left (List.getElem?_eq_some_iff.1 h).1).trans h, hσ _ (by rw [hr.len]; exact (List.getElem?_eq_some_iff.1 h).1)⟩, fun _ _ h => .inl h⟩⟩
  · rcases get_push h1 with q1 | ⟨e1, q1⟩ <;> rcases get_push h2 with q2 | ⟨e2, q2⟩
    · exact hr.inj _ _ _ _ _ q1 q2
    · cases q2
    · cases q1
    · exact e1.trans e2.symm
  · rcases get_push h1 with h1 | ⟨_, h1⟩
    · exact hr.lt _ _ _ h1
    · cases h1
  · rcases get_push h1 with h1 | ⟨rfl, rfl⟩
    · have hi := (List.getElem?_eq_some_iff.1 h1).1
      dsimp only at h2
      rw [hσ _ (by rw [hr.len]; exact hi)] at h2
      exact (hr.blk i b' o h1 h2).le hle fun m v e => rfl
    · dsimp only at h2
      rw [← hr.len, List.getElem?_append_right (Nat.le_refl _)] at h2
      simp at h2; subst h2; exact hB _
  · rcases get_push h1 with h1 | ⟨rfl, rfl⟩
    · have hi := (List.getElem?_eq_some_iff.1 h1).1
      dsimp only at h2
      rw [hσ _ (by rw [hr.len]; exact hi)] at h2
      exact hr.own i m v b' h1 h2 h3
    · dsimp only at h2
      rw [← hr.len, List.getElem?_append_right (Nat.le_refl _)] at h2
      simp at h2
  · show (X.sh ++ [b])[i]? = _
    rw [List.getElem?_append_left (List.getElem?_eq_some_iff.1 hb).1]; exact hb
  · rcases get_push h1 with q1 | ⟨_, q1⟩
    · exact ⟨v, q1⟩
    · cases q1

/-- A block is turned. -/
theorem Stp.turn {X Y : Gst} (hr : RH X) {i : Nat} {b b' : SB} {o o' : Option (Nat × Nat)} (hb : X.sh[i]? = some b) (ho : X.σ[i]? = some o) (hng : b ≠ .gone)
    (hh : ∀ m, m < X.h.length → (∀ v, o ≠ some (m, v)) → Y.h[m]? = X.h[m]?) (hown : ∀ m v, o = some (m, v) → Y.h[m]? = X.h[m]? ∨ b.md = 0) (hlen : X.h.length ≤ Y.h.length)
    (hΦ : ∀ m, Y.Φ m ↔ X.Φ m ∨ (b'.md = 2 ∧ ∃ v, o' = some (m, v))) (hσ : Y.σ = X.σ.set i o') (hs : Y.sh = X.sh.set i b')
    (ho' : ∀ m v, o' = some (m, v) → m < Y.h.length ∧ ((∃ v0, o = some (m, v0)) ∨ (o = none ∧ X.h.length ≤ m))) (ho1 : ∀ m v, o = some (m, v) → ∃ v', o' = some (m, v'))
    (hseq : ∀ u l k md, b' = .seq u l k md → ∃ l' k' md', b = .seq u l' k' md' ∧ k' ≤ k ∧ (k' = k → l'.length = l.length ∧ o' = o))
    (hm0 : b.md ≠ 0 → b'.md ≠ 0) (hm2 : b.md = 2 ∨ b = .gone → b'.md = 2 ∨ b' = .gone) (hB : X.le Y → RB Y b' o') : Stp X Y := by
  have hi := (List.getElem?_eq_some_iff.1 hb).1
  have hΦh : ∀ m, X.Φ m → Y.h[m]? = X.h[m]? := fun m hm => by
    by_cases e : ∃ v, o = some (m, v)
    · obtain ⟨v, e⟩ := e
      rcases hown m v e with h | h
      · exact h
      · rcases hr.own i m v b hb (e ▸ ho) hm with h2 | rfl
        · omega
        · cases h
    · exact hh m (hr.Φlt m hm) fun v h => e ⟨v, h⟩
  have hle : X.le Y := by
    refine ⟨hΦh, fun m hm => (hΦ m).2 (.inl hm), by rw [hσ]; simp, fun loc m v h => ?_, fun loc u l k md hl h => ?_, hr.len⟩
    · rw [hσ]
      by_cases e : loc = i
      · subst e
        rw [ho] at h
        obtain ⟨v', e2⟩ := ho1 m v (Option.some.inj h)
        exact ⟨v', by rw [List.getElem?_set_self (by rw [hr.len]; exact hi), e2]⟩
      · exact ⟨v, by rw [List.getElem?_set_ne (Ne.symm e)]; exact h⟩
    · rw [hs] at h
      rcases get_set h with ⟨rfl, e⟩ | ⟨e, h⟩
      · obtain ⟨l', k', md', h1, h2, h3⟩ := hseq u l k md e
        exact ⟨l', k', md', by rw [hb, h1], h2, fun e => ⟨(h3 e).1, by rw [hσ, List.getElem?_set_self (by rw [hr.len]; exact hi), ho, (h3 e).2]⟩⟩
      · exact ⟨l, k, md, h, Nat.le_refl _, fun _ => ⟨rfl, by rw [hσ, List.getElem?_set_ne (Ne.symm e)]⟩⟩
  refine ⟨hle, ⟨by rw [hσ, hs]; simp [hr.len], fun i1 j m v v' h1 h2 => ?_, fun j m v h1 => ?_, fun m hm => ?_, fun j b2 o2 h1 h2 => ?_, fun j m v b2 h1 h2 h3 => ?_⟩, ⟨hlen, fun m hm hx => ?_, fun j b2 hb2 hm => ?_, fun j m v h1 hm => ?_, fun j h => ?_, fun m hm h => ?_⟩⟩
  · have key : ∀ (j : Nat) m v, Y.σ[j]? = some (some (m, v)) → (∃ v', X.σ[j]? = some (some (m, v'))) ∨ (j = i ∧ X.h.length ≤ m) := fun j m v h => by
      rw [hσ] at h
      rcases get_set h with ⟨rfl, e⟩ | ⟨e, h⟩
      · rcases (ho' m v e).2 with ⟨v0, e2⟩ | ⟨_, e2⟩
        · exact .inl ⟨v0, by rw [ho, e2]⟩
        · exact .inr ⟨rfl, e2⟩
      · exact .inl ⟨v, h⟩
    rcases key _ _ _ h1 with ⟨v1, k1⟩ | ⟨rfl, k1⟩ <;> rcases key _ _ _ h2 with ⟨v2, k2⟩ | ⟨rfl, k2⟩
    · exact hr.inj _ _ _ _ _ k1 k2
    · have := hr.lt _ _ _ k1; omega
    · have := hr.lt _ _ _ k2; omega
    · rfl
  · rw [hσ] at h1
    rcases get_set h1 with ⟨rfl, e⟩ | ⟨e, h⟩
    · exact (ho' m v e).1
    · exact Nat.lt_of_lt_of_le (hr.lt _ _ _ h) hlen
  · rcases (hΦ m).1 hm with h | ⟨_, v, e⟩
    · exact Nat.lt_of_lt_of_le (hr.Φlt m h) hlen
    · exact (ho' m v e).1
  · rw [hs] at h1
    rw [hσ] at h2
    rcases get_set h1 with ⟨rfl, rfl⟩ | ⟨e, h1⟩
    · rw [List.getElem?_set_self (by rw [hr.len]; exact hi)] at h2
      cases h2; exact hB hle
    · rw [List.getElem?_set_ne (Ne.symm e)] at h2
      refine (hr.blk j b2 o2 h1 h2).le hle fun m v e2 => ?_
      subst e2
      exact hh m (hr.lt _ _ _ h2) fun v' e3 => e (hr.inj _ _ _ _ _ h2 (e3 ▸ ho))
  · rw [hs] at h1
    rw [hσ] at h2
    rcases get_set h1 with ⟨rfl, rfl⟩ | ⟨e, h1⟩
    · rw [List.getElem?_set_self (by rw [hr.len]; exact hi)] at h2
      rcases (hΦ m).1 h3 with h | ⟨h, _⟩
      · rcases (ho' m v (Option.some.inj h2)).2 with ⟨v0, e2⟩ | ⟨_, e2⟩
        · exact hm2 (hr.own j m v0 b hb (e2 ▸ ho) h)
        · have := hr.Φlt m h; omega
      · exact .inl h
    · rw [List.getElem?_set_ne (Ne.symm e)] at h2
      rcases (hΦ m).1 h3 with h | ⟨_, v', e2⟩
      · exact hr.own j m v b2 h1 h2 h
      · rcases (ho' m v' e2).2 with ⟨v0, e3⟩ | ⟨_, e3⟩
        · exact absurd (hr.inj _ _ _ _ _ h2 (e3 ▸ ho)) e
        · have := hr.lt _ _ _ h2; omega
  · by_cases e : ∃ v, o = some (m, v)
    · obtain ⟨v, e⟩ := e
      rcases hown m v e with h | h
      · exact h
      · exact absurd h (hx i v b hb (e ▸ ho))
    · exact hh m hm fun v h => e ⟨v, h⟩
  · rw [hs]
    by_cases e : j = i
    · subst e
      rw [hb] at hb2; cases hb2
      exact ⟨b', List.getElem?_set_self hi, hm0 hm⟩
    · exact ⟨b2, by rw [List.getElem?_set_ne (Ne.symm e)]; exact hb2, hm⟩
  · rw [hσ] at h1
    rcases get_set h1 with ⟨rfl, e⟩ | ⟨e, h⟩
    · rcases (ho' m v e).2 with ⟨v0, e2⟩ | ⟨_, e2⟩
      · exact ⟨v0, by rw [ho, e2]⟩
      · omega
    · exact ⟨v, h⟩
  · rw [hs, hσ]
    by_cases e : j = i
    · subst e; rw [hb] at h; cases h; exact absurd rfl hng
    · rw [List.getElem?_set_ne (Ne.symm e), List.getElem?_set_ne (Ne.symm e)]; exact ⟨h, rfl⟩
  · rcases (hΦ m).1 h with h | ⟨_, v, e⟩
    · exact .inl h
    · rcases (ho' m v e).2 with ⟨v0, e2⟩ | ⟨_, e2⟩
      · exact .inr ⟨i, v0, b, hb, e2 ▸ ho, hng⟩
      · omega
end Go.Sx

/- The symbolic machine S: data out of cells; loads and stores. -/
set_option linter.unusedVariables false
namespace Go.Sx
open Go Go.Gx Go.Mx

theorem castU_eq {u v : U} {l : List (El u)} {l' : List (El v)} (h : castU u v l = some l') : ∃ e : u = v, e ▸ l = l' := by
  unfold castU at h
  split at h
  · rename_i e; exact ⟨e, Option.some.inj h⟩
  · cases h
theorem castO {u v : U} {l : List (El u)} {α : Type} {f : List (El v) → α} {r : α} (h : (castU u v l).map f = some r) : ∃ e : u = v, f (e ▸ l) = r := by
  cases q : castU u v l with
  | none => rw [q] at h; cases h
  | some l' => rw [q] at h; obtain ⟨e, e2⟩ := castU_eq q; cases h; exact ⟨e, by rw [e2]⟩
theorem slice_length {α : Type} {l : List α} {a n : Nat} (h : a + n ≤ l.length) : (slice l a (a + n)).length = n := by
  unfold slice; rw [List.length_take, List.length_drop]; omega
theorem slice_get {α : Type} {l : List α} {a n i : Nat} {e : α} (h : (slice l a (a + n))[i]? = some e) : i < n ∧ l[a + i]? = some e := by
  unfold slice at h
  rw [List.getElem?_take] at h
  split at h
  · rw [List.getElem?_drop] at h; exact ⟨by omega, h⟩
  · cases h
theorem part_eq (sz i : Nat) (cs : List AV) : part sz cs i = (cs.drop (i * sz)).take sz := rfl
theorem RCs.slice {h : Heap} {Φ : Nat → Prop} {u : U} {l : List (El u)} {cs : List AV} (q : RCs h Φ u l cs) {a n : Nat} (hl : a + n ≤ l.length) : RCs h Φ u (slice l a (a + n)) ((cs.drop (a * u.sz)).take (n * u.sz)) := by
  have hm : a * u.sz + n * u.sz ≤ l.length * u.sz := by rw [← Nat.add_mul]; exact Nat.mul_le_mul_right _ hl
  refine ⟨by rw [slice_length hl, List.length_take, List.length_drop, q.1]; omega, fun i e hi => ?_⟩
  obtain ⟨h1, h2⟩ := slice_get hi
  have := q.2 (a + i) e h2
  rw [part_eq] at this ⊢
  have hi : i * u.sz + u.sz ≤ n * u.sz := by rw [← Nat.succ_mul]; exact Nat.mul_le_mul_right _ h1
  rw [List.drop_take, List.drop_drop, List.take_take, Nat.min_eq_left (by omega), ← Nat.add_mul]
  exact this
/-- A version of a row, read. -/
theorem rd_row {h : Heap} {m ver minv frz : Nat} {cells : List AV} {ro : Bool} {tt : Option TypeId} (hb : h[m]? = some (.row cells ver minv frz ro tt)) (hv : minv ≤ ver) (off n lim : Nat) (hl : off + n ≤ lim) : rd h m off ver lim n = some ((cells.drop off).take n) := by
  unfold rd; rw [hb]; simp only; rw [if_pos ⟨hv, hl⟩]
theorem Nat_beq {a b : Nat} (h : Nat.beq a b = true) : a = b := Nat.eq_of_beq_eq_true h

/-- A block shut for good. -/
theorem Stp.freeze {X : Gst} (hr : RH X) {loc : Nat} {u : U} {l : List (El u)} {k md : Nat} (hb : X.sh[loc]? = some (.seq u l k md)) : ∃ o Y, X.σ[loc]? = some o ∧ Stp X Y ∧ Y.h = X.h ∧ Y.sh = X.sh.set loc (.seq u l k 2) ∧ ∀ m v, o = some (m, v) → Y.Φ m := by
  have hi := (List.getElem?_eq_some_iff.1 hb).1
  obtain ⟨o, ho⟩ : ∃ o, X.σ[loc]? = some o := ⟨_, List.getElem?_eq_getElem (by rw [hr.len]; exact hi)⟩
  have hσ : X.σ = X.σ.set loc o := by
    refine List.ext_getElem? fun j => ?_
    rw [List.getElem?_set]; split
    · subst j; rw [if_pos (by rw [hr.len]; exact hi)]; exact ho
    · rfl
  have hrb := hr.blk _ _ _ hb ho
  refine ⟨o, ⟨X.h, fun m => X.Φ m ∨ (2 = 2 ∧ ∃ v, o = some (m, v)), X.σ, X.sh.set loc (.seq u l k 2)⟩, ho, ?_, rfl, rfl, fun m v e => .inr ⟨rfl, v, e⟩⟩
  refine Stp.turn hr hb ho (by simp) (fun m _ _ => rfl) (fun m v _ => .inl rfl) (Nat.le_refl _) (fun m => Iff.rfl) hσ rfl (fun m v e => ⟨hr.lt loc m v (e ▸ ho), .inl ⟨v, e⟩⟩) (fun m v e => ⟨v, e⟩)
    (fun u' l' k' md' e => by cases e; exact ⟨l, k, md, rfl, Nat.le_refl _, fun _ => ⟨rfl, rfl⟩⟩) (fun _ => by simp [SB.md]) (fun _ => .inl rfl) fun hle => ?_
  cases o with
  | none => exact hrb
  | some p =>
    obtain ⟨m, ver⟩ := p
    obtain ⟨cells, minv, tt, h1, h2, h3, h4⟩ := hrb
    exact ⟨cells, minv, tt, h1, h2, h3.le hle.h hle.Φ, fun _ => .inr ⟨rfl, ver, rfl⟩⟩

theorem take_sound {X : Gst} (hr : RH X) {u : U} {v : SV} {x : AV} {l : List (El u)} {h' : SH} (hv : RV X v x) (ht : take u v X.sh = some (l, h')) : ∃ Y, Stp X Y ∧ Y.h = X.h ∧ Y.sh = h' ∧ RSl Y.h Y.Φ false u l x := by
  unfold take at ht
  split at ht
  · cases ht; cases (show x = _ from hv); exact ⟨X, .refl hr, rfl, rfl, .inl ⟨rfl, rfl⟩⟩
  · obtain ⟨e, e2⟩ := castO ht; subst e; cases e2; exact ⟨X, .refl hr, rfl, rfl, hv⟩
  · -- an own row
    split at ht
    · rename_i loc n _ u' l' k md hb
      split at ht
      · rename_i hn
        cases Nat_beq hn
        obtain ⟨e, e2⟩ := castO ht; subst e; cases e2
        obtain ⟨o, Y, ho, hS, h1, h2, h3⟩ := Stp.freeze hr hb
        refine ⟨Y, hS, h1, h2, ?_⟩
        obtain ⟨hone, o', ho', hc⟩ := hv
        rw [ho] at ho'; cases ho'
        have hQ := (hc _ _ _ _ hb).2 rfl
        have hB := hr.blk _ _ _ hb ho
        cases o with
        | none => obtain ⟨rfl, _⟩ := hQ; exact .inl ⟨hB, rfl⟩
        | some p =>
          obtain ⟨m, ver⟩ := p
          obtain ⟨cells, minv, tt, q1, q2, q3, q4⟩ := hB
          cases (show x = _ from hQ)
          refine .inr ⟨m, 0, ver, false, cells, rfl, .inl rfl, h3 m ver rfl, ?_, (q3.le hS.le.h hS.le.Φ)⟩
          rw [h1, rd_row q1 q2 _ _ _ (Nat.le_refl _), List.drop_zero, List.take_of_length_le (by rw [q3.1]; exact Nat.le_refl _)]
      · cases ht
    · cases ht
  · -- a part of one
    split at ht
    · rename_i loc n off len _ u' l' k md hb
      split at ht
      · rename_i hn
        cases Nat_beq hn
        obtain ⟨e, e2⟩ := castO ht; subst e; cases e2
        obtain ⟨o, Y, ho, hS, h1, h2, h3⟩ := Stp.freeze hr hb
        refine ⟨Y, hS, h1, h2, ?_⟩
        obtain ⟨hone, o', ho', hc⟩ := hv
        rw [ho] at ho'; cases ho'
        obtain ⟨hl, hQ⟩ := (hc _ _ _ _ hb).2 rfl
        have hB := hr.blk _ _ _ hb ho
        cases o with
        | none =>
          cases (show x = _ from hQ)
          refine .inl ⟨?_, rfl⟩
          rw [show l' = [] from hB]; simp [slice]
        | some p =>
          obtain ⟨m, ver⟩ := p
          obtain ⟨cells, minv, tt, q1, q2, q3, q4⟩ := hB
          cases (show x = _ from hQ)
          have hlen := slice_length hl
          refine .inr ⟨m, off * u'.sz, ver, false, (cells.drop (off * u'.sz)).take (len * u'.sz), by rw [hlen], .inl rfl, h3 m ver rfl, ?_, ((q3.slice hl).le hS.le.h hS.le.Φ)⟩
          rw [h1, hlen, rd_row q1 q2 _ _ _ (Nat.le_refl _)]
      · cases ht
    · cases ht
  · cases ht

theorem dec_bool {vs r : List SV} {h h' : SH} {e : Bool} (hd : dec .bool vs h = some (e, r, h')) : vs = .a (.bool e) :: r ∧ h' = h := by
  rcases vs with _ | ⟨v, vs⟩
  · simp [dec] at hd
  · cases v <;> first | (simp [dec] at hd; done) | skip
    rename_i w
    cases w <;> first | (simp [dec] at hd; done) | skip
    simp [dec] at hd; obtain ⟨rfl, rfl, rfl⟩ := hd; exact ⟨rfl, rfl⟩
theorem dec_int {k : IntKind} {vs r : List SV} {h h' : SH} {e : Int} (hd : dec (.int k) vs h = some (e, r, h')) : vs = .a (.int k e) :: r ∧ h' = h := by
  rcases vs with _ | ⟨v, vs⟩
  · simp [dec] at hd
  · cases v <;> first | (simp [dec] at hd; done) | skip
    rename_i w
    cases w <;> first | (simp [dec] at hd; done) | skip
    simp [dec] at hd; obtain ⟨rfl, rfl, rfl, rfl⟩ := hd; exact ⟨rfl, rfl⟩
theorem dec_u8 {vs r : List SV} {h h' : SH} {e : UInt8} (hd : dec .u8 vs h = some (e, r, h')) : vs = .u8 e :: r ∧ h' = h := by
  rcases vs with _ | ⟨v, vs⟩
  · simp [dec] at hd
  · cases v <;> first | (simp [dec] at hd; done) | skip
    simp [dec] at hd; obtain ⟨rfl, rfl, rfl⟩ := hd; exact ⟨rfl, rfl⟩
theorem dec_str {vs r : List SV} {h h' : SH} {e : List UInt8} (hd : dec .str vs h = some (e, r, h')) : vs = .a (.str e) :: r ∧ h' = h := by
  rcases vs with _ | ⟨v, vs⟩
  · simp [dec] at hd
  · cases v <;> first | (simp [dec] at hd; done) | skip
    rename_i w
    cases w <;> first | (simp [dec] at hd; done) | skip
    simp [dec] at hd; obtain ⟨rfl, rfl, rfl⟩ := hd; exact ⟨rfl, rfl⟩
theorem dec_sound : ∀ (u : U) {X : Gst} (hr : RH X) {vs r : List SV} {xs : List AV} {e : El u} {h' : SH}, RVs X vs xs → dec u vs X.sh = some (e, r, h') →
    ∃ Y c1 c2, Stp X Y ∧ Y.h = X.h ∧ Y.sh = h' ∧ xs = c1 ++ c2 ∧ RE Y.h Y.Φ u e c1 ∧ RVs Y r c2
  | .bool, X, hr, vs, r, xs, e, h', hv, hd => by
    obtain ⟨rfl, rfl⟩ := dec_bool hd
    obtain ⟨x, t, rfl, h1, h2⟩ := hv
    exact ⟨X, [_], t, .refl hr, rfl, rfl, rfl, by cases (show x = _ from h1); rfl, h2⟩
  | .int k, X, hr, vs, r, xs, e, h', hv, hd => by
    obtain ⟨rfl, rfl⟩ := dec_int hd
    obtain ⟨x, t, rfl, h1, h2⟩ := hv
    exact ⟨X, [_], t, .refl hr, rfl, rfl, rfl, by cases (show x = _ from h1); rfl, h2⟩
  | .u8, X, hr, vs, r, xs, e, h', hv, hd => by
    obtain ⟨rfl, rfl⟩ := dec_u8 hd
    obtain ⟨x, t, rfl, h1, h2⟩ := hv
    exact ⟨X, [_], t, .refl hr, rfl, rfl, rfl, by cases (show x = _ from h1); rfl, h2⟩
  | .str, X, hr, vs, r, xs, e, h', hv, hd => by
    obtain ⟨rfl, rfl⟩ := dec_str hd
    obtain ⟨x, t, rfl, h1, h2⟩ := hv
    exact ⟨X, [_], t, .refl hr, rfl, rfl, rfl, by cases (show x = _ from h1); rfl, h2⟩
  | .sl u, X, hr, vs, r, xs, e, h', hv, hd => by
    cases vs with
    | nil => simp [dec] at hd
    | cons v vs =>
      obtain ⟨x, t, rfl, h1, h2⟩ := hv
      simp only [dec] at hd
      split at hd
      · rename_i l h2' ht
        cases hd
        obtain ⟨Y, hS, hh, hs, hq⟩ := take_sound hr h1 ht
        exact ⟨Y, [x], t, hS, hh, hs, rfl, RE_sl.2 ⟨x, rfl, hq⟩, h2.le hS.le⟩
      · cases hd
  | .pair u v, X, hr, vs, r, xs, e, h', hv, hd => by
    simp only [dec] at hd
    split at hd
    · rename_i a r1 h1 hd1
      split at hd
      · rename_i b r2 h2 hd2
        cases hd
        obtain ⟨Y, c1, c2, S1, hh1, hs1, rfl, he1, hr1⟩ := dec_sound u hr hv hd1
        rw [← hs1] at hd2
        obtain ⟨Z, c3, c4, S2, hh2, hs2, rfl, he2, hr2⟩ := dec_sound v S1.hr hr1 hd2
        exact ⟨Z, c1 ++ c3, c4, S1.trans S2, hh2.trans hh1, hs2, (List.append_assoc _ _ _).symm, ⟨c1, c3, rfl, he1.le S2.le.h S2.le.Φ, he2⟩, hr2⟩
      · cases hd
    · cases hd
  | .unit, X, hr, vs, r, xs, e, h', hv, hd => by
    simp only [dec] at hd; cases hd
    exact ⟨X, [], xs, .refl hr, rfl, rfl, rfl, rfl, hv⟩
theorem part_append_left {sz i : Nat} {c1 c2 : List AV} (h : c1.length = sz) : part sz (c1 ++ c2) (i + 1) = part sz c2 i := by
  rw [part_eq, part_eq, List.drop_append, h, Nat.succ_mul, List.drop_of_length_le (by omega), List.nil_append, Nat.add_sub_cancel]
theorem part_append_zero {sz : Nat} {c1 c2 : List AV} (h : c1.length = sz) : part sz (c1 ++ c2) 0 = c1 := by
  rw [part_eq, Nat.zero_mul, List.drop_zero, List.take_append_of_le_length (by omega), List.take_of_length_le (by omega)]
theorem RCs.cons {h : Heap} {Φ : Nat → Prop} {u : U} {e : El u} {l : List (El u)} {c1 c2 : List AV} (q : RE h Φ u e c1) (q2 : RCs h Φ u l c2) : RCs h Φ u (e :: l) (c1 ++ c2) := by
  refine ⟨by rw [List.length_append, q.length, q2.1, List.length_cons, Nat.succ_mul]; omega, fun i e' hi => ?_⟩
  cases i with
  | zero => simp at hi; subst hi; rw [part_append_zero q.length]; exact q
  | succ i => rw [part_append_left q.length]; exact q2.2 i e' (by simpa using hi)
theorem RCs.append {h : Heap} {Φ : Nat → Prop} {u : U} {l l' : List (El u)} {c c' : List AV} (q : RCs h Φ u l c) (q' : RCs h Φ u l' c') : RCs h Φ u (l ++ l') (c ++ c') := by
  refine ⟨by rw [List.length_append, List.length_append, q.1, q'.1, Nat.add_mul], fun i e hi => ?_⟩
  by_cases hl : i < l.length
  · rw [List.getElem?_append_left hl] at hi
    have := q.2 i e hi
    have hm : i * u.sz + u.sz ≤ l.length * u.sz := by rw [← Nat.succ_mul]; exact Nat.mul_le_mul_right _ hl
    rw [part_eq, List.drop_append_of_le_length (by rw [q.1]; omega), List.take_append_of_le_length (by rw [List.length_drop, q.1]; omega)]
    exact this
  · rw [List.getElem?_append_right (by omega)] at hi
    have := q'.2 _ e hi
    rw [part_eq, List.drop_append, List.drop_of_length_le (by rw [q.1]; exact Nat.mul_le_mul_right _ (by omega)), List.nil_append, q.1, ← Nat.sub_mul]
    exact this
theorem RCs.nil {h : Heap} {Φ : Nat → Prop} {u : U} : RCs h Φ u [] [] := ⟨by simp, fun i e hi => by simp at hi⟩
theorem decs_sound (u : U) : ∀ (k : Nat) {X : Gst} (hr : RH X) {vs : List SV} {xs : List AV} {l : List (El u)} {h' : SH}, RVs X vs xs → decs u k vs X.sh = some (l, h') →
    ∃ Y, Stp X Y ∧ Y.h = X.h ∧ Y.sh = h' ∧ l.length = k ∧ RCs Y.h Y.Φ u l xs
  | 0, X, hr, vs, xs, l, h', hv, hd => by
    cases vs with
    | nil => simp only [decs] at hd; cases hd; cases (show xs = [] from hv); exact ⟨X, .refl hr, rfl, rfl, rfl, .nil⟩
    | cons v vs => simp [decs] at hd
  | k + 1, X, hr, vs, xs, l, h', hv, hd => by
    simp only [decs] at hd
    split at hd
    · rename_i x r1 h1 hd1
      split at hd
      · rename_i l2 h2 hd2
        cases hd
        obtain ⟨Y, c1, c2, S1, hh1, hs1, rfl, he1, hr1⟩ := dec_sound u hr hv hd1
        rw [← hs1] at hd2
        obtain ⟨Z, S2, hh2, hs2, hl, hq⟩ := decs_sound u k S1.hr hr1 hd2
        exact ⟨Z, S1.trans S2, hh2.trans hh1, hs2, by simp [hl], .cons (he1.le S2.le.h S2.le.Φ) hq⟩
      · cases hd
    · cases hd

/-- What a slice holds, its row as it is. -/
def reads (u : U) (v : SV) (h : SH) : Option (List (El u)) := match v with
  | .a .nils => some []
  | .isl u' l => castU u' u l
  | .cl u' l => castU u' u l
  | .nsl u' l => castU u' u l
  | .gs loc n => match h[loc]? with
    | some (.seq u' l m _) => match Nat.beq m n with
      | true => castU u' u l
      | false => none
    | _ => none
  | .sl loc n off len _ => match h[loc]? with
    | some (.seq u' l m _) => match Nat.beq m n with
      | true => castU u' u (slice l off (off + len))
      | false => none
    | _ => none
  | _ => none
theorem reads_sound {X : Gst} (hr : RH X) {u : U} {v : SV} {x : AV} {l : List (El u)} (hv : RV X v x) (ht : reads u v X.sh = some l) :
    (l = [] ∧ x = .nils) ∨ ∃ m off ver clip cs, x = .sl m off l.length u.sz ver clip ∧ rd X.h m off ver (off + l.length * u.sz) (l.length * u.sz) = some cs ∧ RCs X.h X.Φ u l cs := by
  unfold reads at ht
  split at ht
  · cases ht; cases (show x = _ from hv); exact .inl ⟨rfl, rfl⟩
  · obtain ⟨e, e2⟩ := castU_eq ht; subst e; cases e2; exact hv.imp id fun ⟨m, off, ver, c', cs, h1, h0, h2, h3, h4⟩ => ⟨m, off, ver, c', cs, h1, h3, h4⟩
  · obtain ⟨e, e2⟩ := castU_eq ht; subst e; cases e2; exact hv.1.imp id fun ⟨m, off, ver, c', cs, h1, h0, h2, h3, h4⟩ => ⟨m, off, ver, c', cs, h1, h3, h4⟩
  · obtain ⟨e, e2⟩ := castU_eq ht; subst e; cases e2; obtain ⟨m, off, ver, c', cs, h1, h0, h2, h3, h4⟩ := hv; exact .inr ⟨m, off, ver, c', cs, h1, h3, h4⟩
  · split at ht
    · rename_i loc n _ u' l' k md hb
      split at ht
      · rename_i hn
        cases Nat_beq hn
        obtain ⟨e, e2⟩ := castU_eq ht; subst e; cases e2
        obtain ⟨hone, o, ho, hc⟩ := hv
        have hQ := (hc _ _ _ _ hb).2 rfl
        have hB := hr.blk _ _ _ hb ho
        cases o with
        | none => obtain ⟨rfl, _⟩ := hQ; exact .inl ⟨hB, rfl⟩
        | some p =>
          obtain ⟨m, ver⟩ := p
          obtain ⟨cells, minv, tt, q1, q2, q3, q4⟩ := hB
          cases (show x = _ from hQ)
          refine .inr ⟨m, 0, ver, false, cells, rfl, ?_, q3⟩
          rw [rd_row q1 q2 _ _ _ (Nat.le_refl _), List.drop_zero, List.take_of_length_le (by rw [q3.1]; exact Nat.le_refl _)]
      · cases ht
    · cases ht
  · split at ht
    · rename_i loc n off len c _ u' l' k md hb
      split at ht
      · rename_i hn
        cases Nat_beq hn
        obtain ⟨e, e2⟩ := castU_eq ht; subst e; cases e2
        obtain ⟨hone, o, ho, hc⟩ := hv
        obtain ⟨hl, hQ⟩ := (hc _ _ _ _ hb).2 rfl
        have hB := hr.blk _ _ _ hb ho
        cases o with
        | none =>
          cases (show x = _ from hQ)
          refine .inl ⟨?_, rfl⟩
          rw [show l' = [] from hB]; simp [slice]
        | some p =>
          obtain ⟨m, ver⟩ := p
          obtain ⟨cells, minv, tt, q1, q2, q3, q4⟩ := hB
          cases (show x = _ from hQ)
          have hlen := slice_length hl
          refine .inr ⟨m, off * u'.sz, ver, c, (cells.drop (off * u'.sz)).take (len * u'.sz), by rw [hlen], ?_, q3.slice hl⟩
          rw [hlen, rd_row q1 q2 _ _ _ (Nat.le_refl _)]
      · cases ht
    · cases ht
  · cases ht
end Go.Sx

/- The symbolic machine S: operations. -/
set_option linter.unusedVariables false
namespace Go.Sx
open Go Go.Gx Go.Mx

inductive SR where
  | val (v : SV) (h : SH) | unit (h : SH) | call (c : FuncId ⊕ Nat) (args : List SV) | dfr (f : FuncId) (args cap : List SV)
/-- Ways to go on: the first one whose condition holds. -/
abbrev Alts := List (Bool × SR)
def Hit : Alts → SR → Prop
  | [], _ => False
  | (g, r) :: l, q => (g = true ∧ r = q) ∨ (g = false ∧ Hit l q)
def one (g : Bool) (v : SV) (h : SH) : Alts := [(g, .val v h)]
def oneO (h : SH) : Option SV → Alts
  | some v => [(true, .val v h)]
  | none => []
def oneG (h : SH) : Option (Bool × SV) → Alts
  | some (g, v) => [(g, .val v h)]
  | none => []
def oneH : Option (Bool × SV × SH) → Alts
  | some (g, v, h) => [(g, .val v h)]
  | none => []
def unitO : Option SH → Alts
  | some h => [(true, .unit h)]
  | none => []
theorem hit_one {g : Bool} {v : SV} {h : SH} {q : SR} (k : Hit (one g v h) q) : g = true ∧ q = .val v h := by
  rcases k with ⟨h1, h2⟩ | ⟨_, h2⟩
  · exact ⟨h1, h2.symm⟩
  · cases h2
theorem hit_O {h : SH} {o : Option SV} {q : SR} (k : Hit (oneO h o) q) : ∃ v, o = some v ∧ q = .val v h := by
  cases o with
  | none => cases k
  | some v => exact ⟨v, rfl, (hit_one (g := true) k).2⟩
theorem hit_G {h : SH} {o : Option (Bool × SV)} {q : SR} (k : Hit (oneG h o) q) : ∃ v, o = some (true, v) ∧ q = .val v h := by
  cases o with
  | none => cases k
  | some p => obtain ⟨g, v⟩ := p; obtain ⟨rfl, h2⟩ := hit_one (g := g) k; exact ⟨v, rfl, h2⟩
theorem hit_H {o : Option (Bool × SV × SH)} {q : SR} (k : Hit (oneH o) q) : ∃ v h, o = some (true, v, h) ∧ q = .val v h := by
  cases o with
  | none => cases k
  | some p => obtain ⟨g, v, h⟩ := p; obtain ⟨rfl, h2⟩ := hit_one (g := g) k; exact ⟨v, h, rfl, h2⟩
theorem hit_U {o : Option SH} {q : SR} (k : Hit (unitO o) q) : ∃ h, o = some h ∧ q = .unit h := by
  cases o with
  | none => cases k
  | some h => rcases k with ⟨_, h2⟩ | ⟨h1, _⟩
              · exact ⟨h, rfl, h2.symm⟩
              · cases h1

/-- The package variables' cells. -/
abbrev GL := List (Option (List SV))
def Gst.base (X : Gst) : Gst := ⟨X.h, X.Φ, [], []⟩
theorem base_le {X : Gst} (h : X.σ.length = X.sh.length) : X.base.le X := ⟨fun _ _ => rfl, fun _ h => h, Nat.zero_le _, fun loc m v h => by simp [Gst.base] at h, fun loc u l k md h => by simp [Gst.base] at h, rfl⟩
theorem base_mono {X Y : Gst} (h : X.le Y) : X.base.le Y.base := ⟨h.h, h.Φ, Nat.le_refl _, fun loc m v h => by simp [Gst.base] at h, fun loc u l k md h => by simp [Gst.base] at h, rfl⟩
def RGl (P : Program) (gl : GL) (X : Gst) : Prop := ∀ (g : Nat) (cs : List SV), gl[g]? = some (some cs) → g < P.globals.size ∧ X.Φ g ∧ ∃ cells, X.h[g]? = some (.lay cells) ∧ RVs X.base cs cells
theorem RGl.le {P : Program} {gl : GL} {X Y : Gst} (h : RGl P gl X) (hl : X.le Y) : RGl P gl Y := fun g cs hg => let ⟨h1, h2, cells, h3, h4⟩ := h g cs hg; ⟨h1, hl.Φ _ h2, cells, (hl.h _ h2).trans h3, h4.le (base_mono hl)⟩
def sev (gl : GL) (env : List SV) : Operand → Option SV
  | .tmp t => env[t]?
  | .const v => match ofConst v with
    | some x => ofA2 x
    | none => none
  | .global g => match gl[g]? with
    | some (some cs) => some (.gptr g 0 cs.length)
    | _ => none
  | .func f => some (.fn f [] [])
def sevs (e : Operand → Option SV) : List Operand → Option (List SV)
  | [] => some []
  | x :: l => match e x, sevs e l with
    | some v, some vs => some (v :: vs)
    | _, _ => none
section
variable {P : Program} {gl : GL} {X : Gst}
theorem sev_sound {env : List SV} {me : Arr AV} (he : RVs X env me.toL) (hg : RGl P gl X) {o : Operand} {v : SV} (h : sev gl env o = some v) : ∃ x, mev P me X.h o = some x ∧ RV X v x := by
  cases o with
  | tmp t => obtain ⟨x, h1, h2⟩ := he.get h; exact ⟨x, Arr.get_toL.symm.trans h1, h2⟩
  | const c =>
    simp only [sev] at h
    split at h
    · rename_i x hx; exact ⟨x, hx, ofA2_sound h⟩
    · cases h
  | global g =>
    simp only [sev] at h
    split at h
    · rename_i cs hcs
      cases h
      obtain ⟨h1, _, cells, h2, h3⟩ := hg g cs hcs
      exact ⟨_, by simp only [mev]; rw [if_pos h1, h2], by show _ = _; rw [h3.length]⟩
    · cases h
  | func f => cases h; exact ⟨_, rfl, _, _, rfl, rfl, rfl⟩
/-- Operands of S and of M. -/
def EvR (X : Gst) (e : Operand → Option SV) (m : Operand → Option AV) : Prop := ∀ o v, e o = some v → ∃ x, m o = some x ∧ RV X v x
variable {e : Operand → Option SV} {m : Operand → Option AV}
theorem sevs_sound (he : EvR X e m) {l : List Operand} {vs : List SV} (h : sevs e l = some vs) : ∃ xs, mevs m l = some xs ∧ RVs X vs xs := by
  induction l generalizing vs with
  | nil => cases h; exact ⟨[], rfl, rfl⟩
  | cons o l ih =>
    simp only [sevs] at h
    split at h
    · rename_i v vs' h1 h2
      cases h
      obtain ⟨x, h3, h4⟩ := he _ _ h1
      obtain ⟨xs, h5, h6⟩ := ih h2
      exact ⟨x :: xs, by simp only [mevs, h3, h5], x, xs, rfl, h4, h6⟩
    · cases h
/-- What M does is what S does. -/
def SRR (X : Gst) : SR → Rs → Prop
  | .val v sh, .val x h => ∃ Y, Stp X Y ∧ Y.sh = sh ∧ Y.h = h ∧ RV Y v x
  | .unit sh, .unit h => ∃ Y, Stp X Y ∧ Y.sh = sh ∧ Y.h = h
  | .call (.inl f) a, .call (.f f') b => f = f' ∧ RVs X a b
  | .call (.inr loc) a, .call (.y m) b => X.at loc m ∧ RVs X a b
  | .dfr f a c, .dfr f' a' c' => f = f' ∧ RVs X a a' ∧ RVs X c c'
  | _, _ => False
theorem SRR.same (hr : RH X) {v : SV} {x : AV} (h : RV X v x) : SRR X (.val v X.sh) (.val x X.h) := ⟨X, .refl hr, rfl, rfl, h⟩

/-! Loads. -/
def cellsAt (gl : GL) (h : SH) (n : Nat) : SV → Option (List SV)
  | .ptr loc off lim => match h[loc]?, Nat.ble (off + n) lim with
    | some (.cells l _), true => some ((l.drop off).take n)
    | _, _ => none
  | .eptr loc k i fo => match h[loc]? with
    | some (.seq u l k' _) => match Nat.beq k' k, Nat.ble (fo + n) u.sz with
      | true, true => some (((enc u (nth u l i)).drop fo).take n)
      | _, _ => none
    | _ => none
  | .iptr u x fo => match Nat.ble (fo + n) u.sz with
    | true => some (((enc u x).drop fo).take n)
    | false => none
  | .gptr g off lim => match gl[g]?, Nat.ble (off + n) lim with
    | some (some l), true => some ((l.drop off).take n)
    | _, _ => none
  | _ => none
theorem nth_get {u : U} {l : List (El u)} {i : Nat} (h : i < l.length) : l[i]? = some (nth u l i) := by
  unfold nth; rw [List.getD_eq_getElem?_getD, List.getElem?_eq_getElem h]; rfl
theorem cellsAt_sound (hr : RH X) (hg : RGl P gl X) {n : Nat} {p : SV} {x : AV} {vs : List SV} (hp : RV X p x) (h : cellsAt gl X.sh n p = some vs) :
    ∃ loc off ver lim xs, x = .ptr loc off ver lim ∧ rd X.h loc off ver lim n = some xs ∧ RVs X vs xs := by
  unfold cellsAt at h
  split at h
  · split at h
    · rename_i loc off lim _ _ l md hb hle
      cases h
      obtain ⟨m, ⟨v, hσ⟩, rfl⟩ := hp
      obtain ⟨m', l', tt, e, h1, h2⟩ := hr.blk _ _ _ hb hσ
      cases e
      exact ⟨m, off, 0, lim, _, rfl, rd_row h1 (Nat.le_refl _) _ _ _ (Nat.le_of_ble_eq_true hle), (h2.drop _).take _⟩
    · cases h
  · split at h
    · rename_i loc k i fo _ u l k' md hb
      split at h
      · rename_i hk hle
        cases h
        cases Nat_beq hk
        have hle := Nat.le_of_ble_eq_true hle
        obtain ⟨hone, o, ho, hc⟩ := hp
        obtain ⟨hi, m, ver, lim, rfl, rfl, hlim⟩ := (hc _ _ _ _ hb).2 rfl
        obtain ⟨cells, minv, tt, q1, q2, q3, q4⟩ := hr.blk _ _ _ hb ho
        have hE := enc_sound (q3.2 i _ (nth_get hi))
        refine ⟨m, _, ver, lim, _, rfl, rd_row q1 q2 _ _ _ ?_, ?_⟩
        · rw [Nat.succ_mul] at hlim; omega
        · have := (hE.drop fo).take n
          rw [part_eq, List.drop_take, List.drop_drop, List.take_take, Nat.min_eq_left (by omega)] at this
          exact this
      · cases h
    · cases h
  · split at h
    · rename_i u e fo _ hle
      cases h
      have hle := Nat.le_of_ble_eq_true hle
      obtain ⟨m, off, ver, lim, cs, rfl, h1, h2, ⟨lim', h3⟩, h4, h5⟩ := hp
      refine ⟨m, off + fo, ver, lim, (cs.drop fo).take n, rfl, ?_, ((enc_sound h5).drop fo).take n⟩
      unfold rd at h3 ⊢
      split at h3
      · rename_i cells v minv frz ro tt hb
        split at h3
        · rename_i hc
          cases h3
          rw [if_pos ⟨hc.1, by omega⟩, List.drop_take, List.drop_drop, List.take_take, Nat.min_eq_left (by omega)]
        · cases h3
      · rename_i cells hb
        split at h3
        · cases h3
          rw [if_pos (by omega), List.drop_take, List.drop_drop, List.take_take, Nat.min_eq_left (by omega)]
        · cases h3
      · cases h3
    · cases h
  · split at h
    · rename_i g off lim _ _ l hgl hle
      cases h
      cases (show x = _ from hp)
      obtain ⟨_, _, cells, h2, h3⟩ := hg g l hgl
      refine ⟨g, off, 0, lim, (cells.drop off).take n, rfl, ?_, ((h3.le (base_le hr.len)).drop off).take n⟩
      unfold rd; rw [h2]; simp only
      rw [if_pos (Nat.le_of_ble_eq_true hle)]
    · cases h
  · cases h
def ofCells (agg : Bool) (cs : List SV) : Option SV := match agg, cs with
  | true, cs => some (.agg cs)
  | false, [v] => some v
  | _, _ => none
def sload (P : Program) (gl : GL) (h : SH) (t : TypeId) (p : SV) : Option SV := match aggT P t, szOf P t with
  | some true, some n => match cellsAt gl h n p with
    | some cs => some (.agg cs)
    | none => none
  | some false, _ => match cellsAt gl h 1 p with
    | some [v] => some v
    | _ => none
  | _, _ => none
def mload (P : Program) (h : Heap) (t : TypeId) (p : AV) : Option AV := match p, aggT P t, szOf P t with
  | .ptr loc off ver lim, some true, some n => match rd h loc off ver lim n with | some cs => some (.agg cs) | none => none
  | .ptr loc off ver lim, some false, _ => match rd h loc off ver lim 1 with | some [v] => some v | _ => none
  | _, _, _ => none
theorem sload_sound (hr : RH X) (hg : RGl P gl X) {t : TypeId} {p v : SV} {x : AV} (hp : RV X p x) (h : sload P gl X.sh t p = some v) : ∃ loc off ver lim, x = .ptr loc off ver lim ∧ ∃ y, RV X v y ∧
    ((∃ n cs, aggT P t = some true ∧ szOf P t = some n ∧ rd X.h loc off ver lim n = some cs ∧ y = .agg cs) ∨ (aggT P t = some false ∧ rd X.h loc off ver lim 1 = some [y])) := by
  unfold sload at h
  split at h
  · rename_i n ha hs
    split at h
    · rename_i cs hc
      cases h
      obtain ⟨loc, off, ver, lim, xs, rfl, h1, h2⟩ := cellsAt_sound hr hg hp hc
      exact ⟨loc, off, ver, lim, rfl, .agg xs, ⟨xs, rfl, h2⟩, .inl ⟨n, xs, ha, hs, h1, rfl⟩⟩
    · cases h
  · rename_i ha
    split at h
    · rename_i w hc
      cases h
      obtain ⟨loc, off, ver, lim, xs, rfl, h1, h2⟩ := cellsAt_sound hr hg hp hc
      obtain ⟨y, t', rfl, h3, h4⟩ := h2
      cases (show t' = [] from h4)
      exact ⟨loc, off, ver, lim, rfl, y, h3, .inr ⟨ha, h1⟩⟩
    · cases h
  · cases h
theorem load_sound (hr : RH X) (hg : RGl P gl X) (he : EvR X e m) {t : TypeId} {o : Operand} {p v : SV} (hp : e o = some p) (h : sload P gl X.sh t p = some v) : ∃ rs, mop P m X.h (.load t o) = some rs ∧ SRR X (.val v X.sh) rs := by
  obtain ⟨x, hx, hq⟩ := he _ _ hp
  obtain ⟨loc, off, ver, lim, rfl, y, hy, ⟨n, cs, h1, h2, h3, rfl⟩ | ⟨h1, h3⟩⟩ := sload_sound hr hg hq h
  · exact ⟨_, by simp only [mop, hx, h1, h2, h3], .same hr hy⟩
  · exact ⟨_, by simp only [mop, hx, h1, h3], .same hr hy⟩

/-! Stores. -/
def ones (vs : List SV) : Bool := vs.all SV.one
theorem RVs.ones {vs : List SV} {xs : List AV} (h : RVs X vs xs) (ho : ones vs = true) : xs.all AV.one = true := by
  induction vs generalizing xs with
  | nil => cases (show xs = [] from h); rfl
  | cons v vs ih =>
    obtain ⟨x, t, rfl, h1, h2⟩ := h
    simp only [Sx.ones, List.all_cons, Bool.and_eq_true] at ho
    simp only [List.all_cons, Bool.and_eq_true]
    exact ⟨h1.one ho.1, ih h2 ho.2⟩
def putCells (h : SH) (vs : List SV) : SV → Option SH
  | .ptr loc off lim => match h[loc]?, Nat.ble (off + vs.length) lim, ones vs with
    | some (.cells l 0), true, true => some (h.set loc (.cells (l.take off ++ vs ++ l.drop (off + vs.length)) 0))
    | _, _, _ => none
  | .eptr loc k i fo => match h[loc]? with
    | some (.seq u l k' 0) => match Nat.beq k' k, Nat.ble (fo + vs.length) u.sz, ones vs with
      | true, true, true => match dec u ((enc u (nth u l i)).take fo ++ vs ++ (enc u (nth u l i)).drop (fo + vs.length)) h with
        | some (x, [], h') => match h'[loc]? with
          | some (.seq _ _ k2 0) => match Nat.beq k2 k with
            | true => some (h'.set loc (.seq u (l.set i x) k 0))
            | false => none
          | _ => none
        | _ => none
      | _, _, _ => none
    | _ => none
  | _ => none
theorem set_ext {α : Type} {l : List α} {i : Nat} {x : α} (h : l[i]? = some x) : l.set i x = l := by
  refine List.ext_getElem? fun j => ?_
  rw [List.getElem?_set]
  split
  · subst j; rw [if_pos (List.getElem?_eq_some_iff.1 h).1, h]
  · rfl
theorem RCs.set {h : Heap} {Φ : Nat → Prop} {u : U} {l : List (El u)} {cs c : List AV} {i : Nat} {e : El u} (q : RCs h Φ u l cs) (hi : i < l.length) (hc : RE h Φ u e c) : RCs h Φ u (l.set i e) (cs.take (i * u.sz) ++ c ++ cs.drop (i * u.sz + u.sz)) := by
  have hm : i * u.sz + u.sz ≤ l.length * u.sz := by rw [← Nat.succ_mul]; exact Nat.mul_le_mul_right _ hi
  have hlen := q.1
  have hcl := hc.length
  refine ⟨by rw [List.length_set, List.length_append, List.length_append, List.length_take, List.length_drop, hcl]; omega, fun j e' hj => ?_⟩
  rcases get_set hj with ⟨rfl, rfl⟩ | ⟨hne, hj⟩
  · rw [part_eq, List.append_assoc, List.drop_append, List.length_take, hlen, Nat.min_eq_left (by omega), List.drop_of_length_le (by rw [List.length_take]; omega), List.nil_append, Nat.sub_self, List.drop_zero, List.take_append_of_le_length (by omega), List.take_of_length_le (by omega)]
    exact hc
  · have hjl := (List.getElem?_eq_some_iff.1 hj).1
    have h1 := q.2 j e' hj
    rw [part_eq] at h1 ⊢
    rcases Nat.lt_or_gt_of_ne hne with hlt | hgt
    · have : j * u.sz + u.sz ≤ i * u.sz := by rw [← Nat.succ_mul]; exact Nat.mul_le_mul_right _ hlt
      rw [List.append_assoc, List.drop_append_of_le_length (by rw [List.length_take]; omega), List.take_append_of_le_length (by rw [List.length_drop, List.length_take]; omega), List.drop_take, List.take_take, Nat.min_eq_left (by omega)]
      exact h1
    · have : i * u.sz + u.sz ≤ j * u.sz := by rw [← Nat.succ_mul]; exact Nat.mul_le_mul_right _ hgt
      rw [List.drop_append, List.drop_of_length_le (by rw [List.length_append, List.length_take, hcl]; omega), List.nil_append, List.length_append, List.length_take, hcl, List.drop_drop, Nat.min_eq_left (by omega), show i * u.sz + u.sz + (j * u.sz - (i * u.sz + u.sz)) = j * u.sz from by omega]
      exact h1
theorem putCells_sound (hr : RH X) {p : SV} {x : AV} {vs : List SV} {xs : List AV} {sh' : SH} (hp : RV X p x) (hv : RVs X vs xs) (h : putCells X.sh vs p = some sh') :
    ∃ loc off ver lim h', x = .ptr loc off ver lim ∧ wr X.h loc off ver lim xs = some h' ∧ ∃ Y, Stp X Y ∧ Y.sh = sh' ∧ Y.h = h' := by
  unfold putCells at h
  split at h
  · split at h
    · rename_i loc off lim _ _ _ l hb hle hones
      cases h
      have hle := Nat.le_of_ble_eq_true hle
      obtain ⟨m, ⟨v, hσ⟩, rfl⟩ := hp
      obtain ⟨m', l', tt, e, h1, h2⟩ := hr.blk _ _ _ hb hσ
      cases e
      have hm := hr.lt _ _ _ hσ
      have hxl := hv.length
      have hk : (X.h.set m (.row (l'.take off ++ xs ++ l'.drop (off + xs.length)) 0 0 0 false tt))[m]? = some (.row (l'.take off ++ xs ++ l'.drop (off + xs.length)) 0 0 0 false tt) := Arr.get_set_self hm
      refine ⟨m, off, 0, lim, X.h.set m (.row (l'.take off ++ xs ++ l'.drop (off + xs.length)) 0 0 0 false tt), rfl, ?_, ⟨X.h.set m (.row (l'.take off ++ xs ++ l'.drop (off + xs.length)) 0 0 0 false tt), X.Φ, X.σ, X.sh.set loc (.cells (l.take off ++ vs ++ l.drop (off + vs.length)) 0)⟩, ?_, rfl, rfl⟩
      · unfold wr; rw [h1]; simp only
        rw [if_pos ⟨trivial, Nat.zero_le _, by omega, hv.ones hones⟩]
      · refine Stp.turn hr hb hσ (by simp) (fun m' hm' hne => Arr.get_set_ne fun e => hne 0 (e ▸ rfl)) (fun _ _ _ => .inr rfl) (by show _ ≤ (X.h.set _ _).length; rw [Arr.length_set]; exact Nat.le_refl _)
          (fun m => ⟨.inl, fun h => h.elim id fun h => by cases h.1⟩) (set_ext hσ).symm rfl (fun m' v' e => by cases e; exact ⟨by show _ < (X.h.set _ _).length; rw [Arr.length_set]; exact hm, .inl ⟨_, rfl⟩⟩) (fun m v e => ⟨v, e⟩) (fun _ _ _ _ e => by cases e)
          (fun h => h) (fun h => h.elim (fun h => by cases h) fun h => by cases h) fun hle' => ?_
        refine ⟨m, _, tt, rfl, hk, ?_⟩
        have hd : RVs X (l.drop (off + vs.length)) (l'.drop (off + xs.length)) := by rw [hxl]; exact h2.drop _
        exact (((h2.le hle').take off).append (hv.le hle')).append (hd.le hle')
    · cases h
  · split at h
    · rename_i loc k i fo _ u l k' hb
      split at h
      · rename_i hk hle hones
        have hk := Nat_beq hk
        subst hk
        have hle := Nat.le_of_ble_eq_true hle
        split at h
        · rename_i y h1 hd
          split at h
          · rename_i u2 l2 k2 hb2
            split at h
            · rename_i hk2
              cases h
              have hk2 := Nat_beq hk2
              subst hk2
              obtain ⟨hone, o, ho, hc⟩ := hp
              obtain ⟨hi, m, ver, lim, rfl, rfl, hlim⟩ := (hc _ _ _ _ hb).2 rfl
              obtain ⟨cells, minv, tt, q1, q2, q3, q4⟩ := hr.blk _ _ _ hb ho
              have hm := hr.lt _ _ _ ho
              have hxl := hv.length
              have hE := enc_sound (q3.2 i _ (nth_get hi))
              have hR : RVs X ((enc u (nth u l i)).take fo ++ vs ++ (enc u (nth u l i)).drop (fo + vs.length)) ((part u.sz cells i).take fo ++ xs ++ (part u.sz cells i).drop (fo + vs.length)) := ((hE.take _).append hv).append (hE.drop _)
              obtain ⟨Y, c1, c2, S1, hh1, hs1, he1, hRE, hr2⟩ := dec_sound u hr hR hd
              cases (show c2 = [] from hr2)
              rw [List.append_nil] at he1
              subst he1
              rw [← hs1] at hb2
              obtain ⟨l', k'', md', e1, e2, e3⟩ := S1.le.seq loc u2 l2 k2 0 (List.getElem?_eq_some_iff.1 hb).1 hb2
              rw [hb] at e1
              cases e1
              obtain ⟨e4, e5⟩ := e3 rfl
              have hσY := e5.trans ho
              have hmi : i * u.sz + u.sz ≤ l.length * u.sz := by rw [← Nat.succ_mul]; exact Nat.mul_le_mul_right _ hi
              have hcl := q3.1
              have hlim' : i * u.sz + fo + xs.length ≤ lim := by rw [Nat.succ_mul] at hlim; omega
              have hlist : cells.take (i * u.sz + fo) ++ xs ++ cells.drop (i * u.sz + fo + xs.length) = cells.take (i * u.sz) ++ ((part u.sz cells i).take fo ++ xs ++ (part u.sz cells i).drop (fo + vs.length)) ++ cells.drop (i * u.sz + u.sz) := by
                rw [part_eq, List.take_take, Nat.min_eq_left (by omega), List.drop_take, List.drop_drop, List.take_add]
                simp only [List.append_assoc]
                refine congrArg _ (congrArg _ (congrArg _ ?_))
                rw [← List.take_append_drop (u.sz - (fo + vs.length)) (cells.drop (i * u.sz + fo + xs.length)), List.drop_drop, hxl, Nat.add_assoc, Nat.add_assoc]
                congr 2
                omega
              refine ⟨m, i * u.sz + fo, ver, lim, X.h.set m (.row (cells.take (i * u.sz + fo) ++ xs ++ cells.drop (i * u.sz + fo + xs.length)) ver ver 0 false tt), rfl, ?_, ⟨X.h.set m (.row (cells.take (i * u.sz + fo) ++ xs ++ cells.drop (i * u.sz + fo + xs.length)) ver ver 0 false tt), Y.Φ, Y.σ, Y.sh.set loc (.seq u (l.set i y) k2 0)⟩, S1.trans ?_, by rw [← hs1], rfl⟩
              · unfold wr; rw [q1]; simp only
                rw [if_pos ⟨trivial, Nat.zero_le _, hlim', hv.ones hones⟩]
              · refine Stp.turn S1.hr hb2 hσY (by simp) (fun m' hm' hne => by rw [hh1]; exact Arr.get_set_ne fun e => hne ver (e ▸ rfl)) (fun _ _ _ => .inr rfl) (by show _ ≤ (X.h.set _ _).length; rw [Arr.length_set, hh1]; exact Nat.le_refl _)
                  (fun m => ⟨.inl, fun h => h.elim id fun h => by cases h.1⟩) (set_ext hσY).symm rfl (fun m' v' e => by cases e; exact ⟨by show _ < (X.h.set _ _).length; rw [Arr.length_set]; exact hm, .inl ⟨_, rfl⟩⟩) (fun m v e => ⟨v, e⟩) (fun u3 l3 k3 md3 e => by cases e; exact ⟨l2, k2, 0, rfl, Nat.le_refl _, fun _ => ⟨by rw [List.length_set]; exact e4.symm, rfl⟩⟩)
                  (fun h => h) (fun h => h.elim (fun h => by cases h) fun h => by cases h) fun hle' => ?_
                refine ⟨_, ver, tt, Arr.get_set_self hm, Nat.le_refl _, ?_, fun e => by cases e⟩
                have := ((q3.le S1.le.h S1.le.Φ).le hle'.h hle'.Φ).set hi (hRE.le hle'.h hle'.Φ)
                rwa [← hlist] at this
            · cases h
          · cases h
        · cases h
      · cases h
    · cases h
  · cases h
end
end Go.Sx

/- The symbolic machine S: operations on plain values. -/
set_option linter.unusedVariables false
set_option linter.unusedSimpArgs false
namespace Go.Sx
open Go Go.Gx Go.Mx

section
variable {P : Program} {gl : GL} {X : Gst} {e : Operand → Option SV} {m : Operand → Option AV}
theorem u8bits (a b : UInt8) (op : BinOp) : IntKind.u8.wrap (a.toNat : Int) = a.toNat := u8wrap a
def sb8 (op : BinOp) (a b : UInt8) : Option SV := match op with
  | .add => some (.u8 (a + b))
  | .sub => some (.u8 (a - b))
  | .and => some (.u8 (a &&& b))
  | .or => some (.u8 (a ||| b))
  | .xor => some (.u8 (a ^^^ b))
  | .andNot => some (.u8 (a &&& ~~~b))
  | .lss => some (.a (.bool (decide (a < b))))
  | .leq => some (.a (.bool (decide (a ≤ b))))
  | .gtr => some (.a (.bool (decide (b < a))))
  | .geq => some (.a (.bool (decide (b ≤ a))))
  | .eql => some (.a (.bool (a == b)))
  | .neq => some (.a (.bool (a != b)))
  | _ => none
theorem sb8_sound {op : BinOp} {a b : UInt8} {v : SV} (h : sb8 op a b = some v) : ∃ x, mint op .u8 (a.toNat : Int) (b.toNat : Int) = some x ∧ RV X v x := by
  unfold sb8 at h
  split at h <;> cases h
  · exact ⟨_, rfl, congrArg (AV.int .u8) (by rw [IntKind.wrap_u8, UInt8.toNat_add]; omega)⟩
  · exact ⟨_, rfl, by show _ = _; congr 1; have := a.toNat_lt; have := b.toNat_lt; rw [IntKind.wrap_u8, UInt8.toNat_sub]; omega⟩
  · exact ⟨_, rfl, by show _ = _; congr 1; unfold ibits; simp only [IntKind.bits, u8bv]; exact u8wrap (a &&& b)⟩
  · exact ⟨_, rfl, by show _ = _; congr 1; unfold ibits; simp only [IntKind.bits, u8bv]; exact u8wrap (a ||| b)⟩
  · exact ⟨_, rfl, by show _ = _; congr 1; unfold ibits; simp only [IntKind.bits, u8bv]; exact u8wrap (a ^^^ b)⟩
  · exact ⟨_, rfl, by show _ = _; congr 1; unfold ibits; simp only [IntKind.bits, u8bv]; exact u8wrap (a &&& ~~~ b)⟩
  · exact ⟨_, rfl, by show _ = _; congr 1; simp [UInt8.lt_iff_toNat_lt]⟩
  · exact ⟨_, rfl, by show _ = _; congr 1; simp [UInt8.le_iff_toNat_le]⟩
  · exact ⟨_, rfl, by show _ = _; congr 1; simp [UInt8.lt_iff_toNat_lt]⟩
  · exact ⟨_, rfl, by show _ = _; congr 1; simp [UInt8.le_iff_toNat_le]⟩
  · exact ⟨_, rfl, by show _ = _; congr 1; exact u8c a b⟩
  · exact ⟨_, rfl, by show _ = _; congr 1; rw [bne, bne, u8c]⟩
theorem sshl8 {a : UInt8} {n : Int} (hn : 0 ≤ n) : mshift .shl .u8 (a.toNat : Int) n = some (.int .u8 ((shl8 a n).toNat : Int)) := by
  unfold mshift
  rw [if_neg (by omega)]
  show some (AV.int .u8 (IntKind.u8.wrap _)) = _
  rw [wrap_u8of]; rfl
theorem sshr8 {a : UInt8} {n : Int} (hn : 0 ≤ n) : mshift .shr .u8 (a.toNat : Int) n = some (.int .u8 ((shr8 a n).toNat : Int)) := by
  unfold mshift
  rw [if_neg (by omega)]
  have h1 : Int.fdiv ((a.toNat : Nat) : Int) (2 ^ min n.toNat (IntKind.bits .u8)) = ((a.toNat / 2 ^ (min n.toNat 8) : Nat) : Int) := by
    rw [show IntKind.bits .u8 = 8 from rfl, Int.fdiv_eq_ediv_of_nonneg _ (Int.pow_nonneg (by decide))]
    push_cast
    rfl
  have h2 : ((shr8 a n).toNat : Int) = ((a.toNat / 2 ^ (min n.toNat 8) : Nat) : Int) := by
    have h3 : a.toNat / 2 ^ (min n.toNat 8) < 256 := Nat.lt_of_le_of_lt (Nat.div_le_self _ _) a.toNat_lt
    unfold shr8
    generalize a.toNat / 2 ^ (min n.toNat 8) = z at *
    rw [← wrap_u8of, IntKind.wrap_u8]; omega
  show some (AV.int .u8 (Int.fdiv _ _)) = _
  rw [h1, h2]

def sall (f : Field → Option Bool) : List Field → Option Bool
  | [] => some true
  | fd :: l => if fd.name ≠ "_" then match f fd, sall f l with
      | some a, some b => some (a && b)
      | _, _ => none
    else sall f l
theorem sall_sound {f g : Field → Option Bool} (hf : ∀ x r, f x = some r → g x = some r) {l : List Field} {r : Bool} (h : sall f l = some r) : mall g l = some r := by
  induction l generalizing r with
  | nil => exact h
  | cons fd l ih =>
    unfold sall at h
    unfold mall
    split
    · rename_i hn
      rw [if_pos hn] at h
      split at h
      · rename_i a b h1 h2
        cases h
        rw [hf _ _ h1, ih h2]
        cases a <;> rfl
      · cases h
    · rename_i hn
      rw [if_neg hn] at h
      exact ih h
def seqS (P : Program) : Nat → TypeId → AV → AV → Option Bool
  | 0, _, _, _ => none
  | d + 1, t, x, y => match P.underlying t, x, y with
    | some (.struct fs), .agg xs, .agg ys => if P.stoodInHeld t then none else sall (fun f => match mpart P f.type xs f.offset, mpart P f.type ys f.offset with | some a, some b => seqS P d f.type a b | _, _ => none) fs.toList
    | _, _, _ => meq P (d + 1) t x y
theorem seqS_sound {d : Nat} : ∀ {t : TypeId} {x y : AV} {r : Bool}, seqS P d t x y = some r → meq P d t x y = some r := by
  induction d with
  | zero => intro t x y r h; cases h
  | succ d ih =>
    intro t x y r h
    unfold seqS at h
    split at h
    · rename_i fs xs ys hu
      unfold meq
      rw [hu]
      simp only
      split at h
      · cases h
      · rename_i hs
        rw [if_neg hs]
        refine sall_sound (fun f r hf => ?_) h
        split at hf
        · rename_i h1 h2; rw [h1, h2]; exact ih hf
        · cases hf
    · exact h
def sbin1 (P : Program) (op : BinOp) (t : TypeId) (a b : AV) : Option (Bool × AV) :=
  match op, a, b with
  | .quo, .int k x, .int k' y => if k = k' then some (y != 0, .int k (k.wrap (x.tdiv y))) else none
  | .rem, .int k x, .int k' y => if k = k' then some (y != 0, .int k (x.tmod y)) else none
  | .shl, .int k x, .int _ y => some (decide (0 ≤ y), .int k (k.wrap (x * 2 ^ (min y.toNat k.bits))))
  | .shr, .int k x, .int _ y => some (decide (0 ≤ y), .int k (x.fdiv (2 ^ (min y.toNat k.bits))))
  | .add, .str x, .str y => some (decide (x.length + y.length < 4611686018427387904), .str (x ++ y))
  | .eql, .agg xs, .agg ys => match seqS P 8 t (.agg xs) (.agg ys) with
    | some r => some (true, .bool r)
    | none => none
  | .neq, .agg xs, .agg ys => match seqS P 8 t (.agg xs) (.agg ys) with
    | some r => some (true, .bool !r)
    | none => none
  | op, a, b => match mbin P op t a b with
    | some v => some (true, v)
    | none => none
theorem sbin1_sound {op : BinOp} {t : TypeId} {a b v : AV} (h : sbin1 P op t a b = some (true, v)) : mbin P op t a b = some v := by
  unfold sbin1 at h
  split at h
  · split at h
    · rename_i k x k' y hk
      simp only [Option.some.injEq, Prod.mk.injEq, bne_iff_ne] at h
      obtain ⟨h1, rfl⟩ := h
      simp only [mbin, if_pos hk, mint, if_neg h1]
    · cases h
  · split at h
    · rename_i k x k' y hk
      simp only [Option.some.injEq, Prod.mk.injEq, bne_iff_ne] at h
      obtain ⟨h1, rfl⟩ := h
      simp only [mbin, if_pos hk, mint, if_neg h1]
    · cases h
  · simp only [Option.some.injEq, Prod.mk.injEq, decide_eq_true_eq] at h
    obtain ⟨h1, rfl⟩ := h
    simp only [mbin, mshift]
    rw [if_neg (by omega)]
  · simp only [Option.some.injEq, Prod.mk.injEq, decide_eq_true_eq] at h
    obtain ⟨h1, rfl⟩ := h
    simp only [mbin, mshift]
    rw [if_neg (by omega)]
  · simp only [Option.some.injEq, Prod.mk.injEq, decide_eq_true_eq] at h
    obtain ⟨h1, rfl⟩ := h
    simp only [mbin, mstr]
    rw [if_pos h1]
  · split at h
    · rename_i r hr
      cases h
      simp only [mbin, seqS_sound hr]
    · cases h
  · split at h
    · rename_i r hr
      cases h
      simp only [mbin, seqS_sound hr]
    · cases h
  · split at h
    · cases h; assumption
    · cases h
/-- One is nil, and the other is not. -/
def nilNe1 (P : Program) (t : TypeId) (a b : SV) : Bool := match P.underlying t, a, b with
  | some (.pointer _), .ptr .., .a .nilp => true
  | some (.pointer _), .iptr .., .a .nilp => true
  | some (.pointer _), .gptr .., .a .nilp => true
  | some (.map _ _), .map .., .a .nilm => true
  | some (.map _ _), .imap .., .a .nilm => true
  | some (.func _ _ _), .fn .., .a .nilf => true
  | some (.interface _), .ifc .., .a .nili => true
  | some (.slice _), .nsl .., .a .nils => true
  | _, _, _ => false
theorem nilNe1_sound {t : TypeId} {a b : SV} {x y : AV} (h : nilNe1 P t a b = true) (ha : RV X a x) (hb : RV X b y) : meq P 8 t x y = some false ∧ meq P 8 t y x = some false ∧ (∀ op, mbin P op t x y = match op with | .eql => (match meq P 8 t x y with | some r => some (.bool r) | none => none) | .neq => (match meq P 8 t x y with | some r => some (.bool !r) | none => none) | _ => none) ∧
    (∀ op, mbin P op t y x = match op with | .eql => (match meq P 8 t y x with | some r => some (.bool r) | none => none) | .neq => (match meq P 8 t y x with | some r => some (.bool !r) | none => none) | _ => none) ∧ ∀ p q op, guardOk P op t p q x y = true ∧ guardOk P op t p q y x = true := by
  unfold nilNe1 at h
  split at h
  · rename_i hu; obtain ⟨m, _, rfl⟩ := ha; cases (show y = _ from hb)
    refine ⟨by unfold meq; rw [hu], by unfold meq; rw [hu], fun op => by cases op <;> rfl, fun op => by cases op <;> rfl, fun p q op => by cases op <;> exact ⟨rfl, rfl⟩⟩
  · rename_i hu; obtain ⟨m, off, ver, lim, cs, rfl, _⟩ := ha; cases (show y = _ from hb)
    refine ⟨by unfold meq; rw [hu], by unfold meq; rw [hu], fun op => by cases op <;> rfl, fun op => by cases op <;> rfl, fun p q op => by cases op <;> exact ⟨rfl, rfl⟩⟩
  · rename_i hu; cases (show x = _ from ha); cases (show y = _ from hb)
    refine ⟨by unfold meq; rw [hu], by unfold meq; rw [hu], fun op => by cases op <;> rfl, fun op => by cases op <;> rfl, fun p q op => by cases op <;> exact ⟨rfl, rfl⟩⟩
  · rename_i hu; obtain ⟨m, _, rfl⟩ := ha; cases (show y = _ from hb)
    refine ⟨by unfold meq; rw [hu], by unfold meq; rw [hu], fun op => by cases op <;> rfl, fun op => by cases op <;> rfl, fun p q op => by cases op <;> exact ⟨rfl, rfl⟩⟩
  · rename_i hu; obtain ⟨m, es, rfl, _⟩ := ha; cases (show y = _ from hb)
    refine ⟨by unfold meq; rw [hu], by unfold meq; rw [hu], fun op => by cases op <;> rfl, fun op => by cases op <;> rfl, fun p q op => by cases op <;> exact ⟨rfl, rfl⟩⟩
  · rename_i hu; obtain ⟨m, es, rfl, _⟩ := ha; cases (show y = _ from hb)
    refine ⟨by unfold meq; rw [hu], by unfold meq; rw [hu], fun op => by cases op <;> rfl, fun op => by cases op <;> rfl, fun p q op => by cases op <;> exact ⟨rfl, rfl⟩⟩
  · rename_i hu; obtain ⟨m, rfl, _⟩ := ha; cases (show y = _ from hb)
    refine ⟨by unfold meq; rw [hu], by unfold meq; rw [hu], fun op => by cases op <;> rfl, fun op => by cases op <;> rfl, fun p q op => by cases op <;> exact ⟨rfl, rfl⟩⟩
  · rename_i hu; obtain ⟨m, off, ver, c', cs, rfl, _⟩ := ha; cases (show y = _ from hb)
    refine ⟨by unfold meq; rw [hu], by unfold meq; rw [hu], fun op => by cases op <;> rfl, fun op => by cases op <;> rfl, fun p q op => by cases op <;> exact ⟨rfl, rfl⟩⟩
  · cases h
def sbin (P : Program) (op : BinOp) (t : TypeId) (x y : Operand) (a b : SV) : Option (Bool × SV) := match a, b with
  | .u8 a, .u8 b => match op with
    | .shl => some (true, .u8 (shl8 a (b.toNat : Int)))
    | .shr => some (true, .u8 (shr8 a (b.toNat : Int)))
    | op => (sb8 op a b).map (true, ·)
  | .u8 a, .a (.int _ n) => match op with
    | .shl => some (decide (0 ≤ n), .u8 (shl8 a n))
    | .shr => some (decide (0 ≤ n), .u8 (shr8 a n))
    | _ => none
  | a, b => match toA2 a, toA2 b with
    | some p, some q => match guardOk P op t x y p q, sbin1 P op t p q with
      | true, some (g, v) => (ofA v).map (g, ·)
      | _, _ => none
    | _, _ => match op, nilNe1 P t a b || nilNe1 P t b a with
      | .eql, true => some (true, .a (.bool false))
      | .neq, true => some (true, .a (.bool true))
      | _, _ => none
theorem sbin_sound {op : BinOp} {t : TypeId} {x y : Operand} {a b v : SV} {p q : AV} (h : sbin P op t x y a b = some (true, v)) (ha : RV X a p) (hb : RV X b q) : guardOk P op t x y p q = true ∧ ∃ w, mbin P op t p q = some w ∧ RV X v w := by
  unfold sbin at h
  split at h
  · cases (show p = _ from ha); cases (show q = _ from hb)
    refine ⟨by cases op <;> rfl, ?_⟩
    split at h
    · cases h; exact ⟨_, sshl8 (by omega), rfl⟩
    · cases h; exact ⟨_, sshr8 (by omega), rfl⟩
    · rename_i a b op' h1 h2
      cases q : sb8 op a b with
      | none => rw [q] at h; cases h
      | some v' =>
        rw [q] at h; cases h
        obtain ⟨w, h3, h4⟩ := sb8_sound (X := X) q
        refine ⟨w, ?_, h4⟩
        cases op <;> first | exact h3 | contradiction | cases h3
  · cases (show p = _ from ha); cases (show q = _ from hb)
    split at h
    · simp only [Option.some.injEq, Prod.mk.injEq, decide_eq_true_eq] at h
      obtain ⟨h1, rfl⟩ := h
      exact ⟨rfl, _, sshl8 h1, rfl⟩
    · simp only [Option.some.injEq, Prod.mk.injEq, decide_eq_true_eq] at h
      obtain ⟨h1, rfl⟩ := h
      exact ⟨rfl, _, sshr8 h1, rfl⟩
    · cases h
  · split at h
    · rename_i p' q' h1 h2
      cases toA2_sound h1 ha
      cases toA2_sound h2 hb
      split at h
      · rename_i g v' h3 h4
        cases h5 : ofA v' with
        | none => rw [h5] at h; cases h
        | some v2 => rw [h5] at h; cases h; exact ⟨h3, v', sbin1_sound h4, ofA_sound h5⟩
      · cases h
    · split at h
      · rename_i hn
        cases h
        rcases Bool.or_eq_true _ _ ▸ hn with hn | hn
        · obtain ⟨h1, h2, h3, h4, h5⟩ := nilNe1_sound hn ha hb
          exact ⟨(h5 _ _ _).1, .bool false, (h3 _).trans (by simp only [h1]), rfl⟩
        · obtain ⟨h1, h2, h3, h4, h5⟩ := nilNe1_sound hn hb ha
          exact ⟨(h5 _ _ _).2, .bool false, (h4 _).trans (by simp only [h2]), rfl⟩
      · rename_i hn
        cases h
        rcases Bool.or_eq_true _ _ ▸ hn with hn | hn
        · obtain ⟨h1, h2, h3, h4, h5⟩ := nilNe1_sound hn ha hb
          exact ⟨(h5 _ _ _).1, .bool true, (h3 _).trans (by simp only [h1]; rfl), rfl⟩
        · obtain ⟨h1, h2, h3, h4, h5⟩ := nilNe1_sound hn hb ha
          exact ⟨(h5 _ _ _).2, .bool true, (h4 _).trans (by simp only [h2]; rfl), rfl⟩
      · cases h
theorem bin_sound (hr : RH X) (he : EvR X e m) {op : BinOp} {t t' : TypeId} {x y : Operand} {a b v : SV} (ha : e x = some a) (hb : e y = some b) (h : sbin P op t x y a b = some (true, v)) : ∃ rs, mop P m X.h (.binOp op t x y t') = some rs ∧ SRR X (.val v X.sh) rs := by
  obtain ⟨p, h1, h2⟩ := he _ _ ha
  obtain ⟨q, h3, h4⟩ := he _ _ hb
  obtain ⟨hg, w, h5, h6⟩ := sbin_sound h h2 h4
  exact ⟨_, by simp only [mop, h1, h3, if_pos hg, h5, rv], .same hr h6⟩
def sun (u : UnOp) : SV → Option SV
  | .a (.int k x) => match u with
    | .neg => some (.a (.int k (k.wrap (0 - x))))
    | .xor => some (.a (.int k (ibits .xor k (if k.signed then -1 else k.max) x)))
    | _ => none
  | .u8 b => match u with
    | .neg => some (.u8 (0 - b))
    | _ => none
  | .a (.bool b) => match u with
    | .not => some (.a (.bool !b))
    | _ => none
  | _ => none
theorem un_sound (hr : RH X) (he : EvR X e m) {u : UnOp} {t : TypeId} {x : Operand} {a v : SV} (ha : e x = some a) (h : sun u a = some v) : ∃ rs, mop P m X.h (.unOp u t x) = some rs ∧ SRR X (.val v X.sh) rs := by
  obtain ⟨p, h1, h2⟩ := he _ _ ha
  unfold sun at h
  split at h
  · cases (show p = _ from h2)
    split at h <;> cases h
    · exact ⟨_, by simp only [mop, h1], .same hr rfl⟩
    · exact ⟨_, by simp only [mop, h1], .same hr rfl⟩
  · cases (show p = _ from h2)
    split at h <;> cases h
    rename_i b _
    refine ⟨.val (.int .u8 (IntKind.u8.wrap (0 - (b.toNat : Int)))) X.h, by simp only [mop, h1], .same hr ?_⟩
    show _ = _
    refine congrArg (AV.int .u8) ?_
    have := b.toNat_lt
    rw [IntKind.wrap_u8, UInt8.toNat_sub]
    have : (0 : UInt8).toNat = 0 := rfl
    omega
  · cases (show p = _ from h2)
    split at h <;> cases h
    exact ⟨_, by simp only [mop, h1], .same hr rfl⟩
  · cases h
end
end Go.Sx

/- The symbolic machine S: operations that turn no memory. -/
set_option linter.unusedVariables false
set_option linter.unusedSimpArgs false
namespace Go.Sx
open Go Go.Gx Go.Mx

section
variable {P : Program} {gl : GL} {X : Gst} {e : Operand → Option SV} {m : Operand → Option AV}
theorem move_sound (hr : RH X) (he : EvR X e m) {x : Operand} {v : SV} (h : e x = some v) : ∃ rs, mop P m X.h (.move x) = some rs ∧ SRR X (.val v X.sh) rs := by
  obtain ⟨p, h1, h2⟩ := he _ _ h
  exact ⟨_, by simp only [mop, h1, rv], .same hr h2⟩
theorem assign_sound (hr : RH X) (he : EvR X e m) {x : Operand} {v : SV} (h : e x = some v) : ∃ rs, mop P m X.h (.assign x) = some rs ∧ SRR X (.val v X.sh) rs := by
  obtain ⟨p, h1, h2⟩ := he _ _ h
  exact ⟨_, by simp only [mop, h1, rv], .same hr h2⟩
def spick (c : Bool) (x y : SV) (h : SH) : Alts := match x, y with
  | .a (.bool x), .a (.bool y) => one true (.a (.bool (cond c x y))) h
  | x, y => [(c, .val x h), (!c, .val y h)]
theorem pick_sound (hr : RH X) (he : EvR X e m) {oc ox oy : Operand} {c : Bool} {x y : SV} {q : SR} (hc : e oc = some (.a (.bool c))) (hx : e ox = some x) (hy : e oy = some y) (h : Hit (spick c x y X.sh) q) : ∃ rs, mop P m X.h (.pick oc ox oy) = some rs ∧ SRR X q rs := by
  obtain ⟨pc, h1, h2⟩ := he _ _ hc
  cases (show pc = _ from h2)
  obtain ⟨px, h3, h4⟩ := he _ _ hx
  obtain ⟨py, h5, h6⟩ := he _ _ hy
  have key : ∀ v, (c = true → v = x) → (c = false → v = y) → ∃ rs, mop P m X.h (.pick oc ox oy) = some rs ∧ SRR X (.val v X.sh) rs := by
    intro v hT hF
    cases c with
    | true => exact ⟨_, by simp only [mop, h1, h3, rv], .same hr (hT rfl ▸ h4)⟩
    | false => exact ⟨_, by simp only [mop, h1, h5, rv], .same hr (hF rfl ▸ h6)⟩
  unfold spick at h
  split at h
  · obtain ⟨_, rfl⟩ := hit_one h
    exact key _ (fun e => by rw [e]; rfl) (fun e => by rw [e]; rfl)
  · rcases h with ⟨rfl, rfl⟩ | ⟨rfl, ⟨_, rfl⟩ | ⟨_, h⟩⟩
    · exact key _ (fun _ => rfl) (fun e => by cases e)
    · exact key _ (fun e => by cases e) (fun _ => rfl)
    · cases h

/-! Structs built, parts of them. -/
def SV.whole (v : SV) : Bool := match v with
  | .agg _ => true
  | v => v.one
theorem RV.wholeC {v : SV} {x : AV} (h : RV X v x) (ho : v.whole = true) : RVs X v.cells x.cells := by
  refine h.cells ?_
  cases v <;> first | exact .inr ⟨_, rfl⟩ | exact .inl ho
def sparts (e : Operand → Option SV) : List (Nat × Operand) → Option (List (Nat × SV))
  | [] => some []
  | (i, x) :: l => match e x, sparts e l with
    | some v, some vs => some ((i, v) :: vs)
    | _, _ => none
def RPs (X : Gst) : List (Nat × SV) → List (Nat × AV) → Prop
  | [], l => l = []
  | p :: ps, l => ∃ x xs, l = (p.1, x) :: xs ∧ RV X p.2 x ∧ RPs X ps xs
theorem sparts_sound (he : EvR X e m) {l : List (Nat × Operand)} {ps : List (Nat × SV)} (h : sparts e l = some ps) : ∃ qs, mparts m l = some qs ∧ RPs X ps qs := by
  induction l generalizing ps with
  | nil => cases h; exact ⟨[], rfl, rfl⟩
  | cons p l ih =>
    obtain ⟨i, o⟩ := p
    simp only [sparts] at h
    split at h
    · rename_i v vs h1 h2
      cases h
      obtain ⟨x, h3, h4⟩ := he _ _ h1
      obtain ⟨xs, h5, h6⟩ := ih h2
      exact ⟨_, by simp only [mparts, h3, h5], x, xs, rfl, h4, h6⟩
    · cases h
def sfill (place : Nat → Option (Nat × Nat)) (cells : List SV) : List (Nat × SV) → Option (List SV)
  | [] => some cells
  | (i, v) :: rest => match place i with
    | none => none
    | some (off, size) => match Nat.beq v.cells.length size && Nat.ble (off + size) cells.length && v.whole with
      | true => sfill place (cells.take off ++ v.cells ++ cells.drop (off + size)) rest
      | false => none
theorem sfill_sound {place : Nat → Option (Nat × Nat)} {ps : List (Nat × SV)} : ∀ {cs r : List SV} {xs : List AV} {qs : List (Nat × AV)}, RVs X cs xs → RPs X ps qs → sfill place cs ps = some r → ∃ r', mfill place xs qs = some r' ∧ RVs X r r' := by
  induction ps with
  | nil => intro cs r xs qs hc hp h; cases h; cases (show qs = [] from hp); exact ⟨xs, rfl, hc⟩
  | cons p ps ih =>
    intro cs r xs qs hc hp h
    obtain ⟨i, v⟩ := p
    obtain ⟨x, qs', rfl, h1, h2⟩ := hp
    simp only [sfill] at h
    split at h
    · cases h
    · rename_i off size hpl
      split at h
      · rename_i hb
        simp only [Bool.and_eq_true] at hb
        have h3 : v.cells.length = size := Nat_beq hb.1.1
        have h4 : off + size ≤ cs.length := Nat.le_of_ble_eq_true hb.1.2
        have hv := h1.wholeC hb.2
        have hl := hv.length
        obtain ⟨r', h5, h6⟩ := ih (((hc.take off).append hv).append (hc.drop (off + size))) h2 h
        refine ⟨r', ?_, h6⟩
        simp only [mfill, hpl]
        rw [if_pos ⟨hl.trans h3, by rw [hc.length]; exact h4⟩]
        exact h5
      · cases h
def szero (P : Program) (t : TypeId) : Option SV := match zeroOf P t with
  | some z => ofA2 z
  | none => none
theorem szero_sound {t : TypeId} {z : SV} (h : szero P t = some z) : ∃ x, zeroOf P t = some x ∧ RV X z x := by
  unfold szero at h
  split at h
  · rename_i x hx; exact ⟨x, hx, ofA2_sound h⟩
  · cases h
def sbuild (P : Program) (t : TypeId) (parts : List (Nat × SV)) : Option SV :=
  match szero P t, P.underlying t with
  | some z, some (.struct fs) => match mplaces P fs.toList, z.whole with
    | some ps, true => match sfill (ps[·]?) z.cells parts with | some cs => some (.agg cs) | none => none
    | _, _ => none
  | some z, some (.array _ el) => match szOf P el, z.whole with
    | some n, true => match sfill (fun i => some (i * n, n)) z.cells parts with | some cs => some (.agg cs) | none => none
    | _, _ => none
  | _, _ => none
theorem build_sound (hr : RH X) (he : EvR X e m) {t : TypeId} {parts : Array (Nat × Operand)} {ps : List (Nat × SV)} {v : SV} (hp : sparts e parts.toList = some ps) (h : sbuild P t ps = some v) : ∃ rs, mop P m X.h (.build t parts) = some rs ∧ SRR X (.val v X.sh) rs := by
  obtain ⟨qs, h1, h2⟩ := sparts_sound he hp
  unfold sbuild at h
  split at h
  · rename_i z fs hz hu
    obtain ⟨x, h3, h4⟩ := szero_sound (X := X) hz
    split at h
    · rename_i pl hpl hw
      split at h
      · rename_i cs hcs
        cases h
        obtain ⟨r', h5, h6⟩ := sfill_sound (h4.wholeC hw) h2 hcs
        exact ⟨_, by simp only [mop, h1, mbuild, h3, hu, hpl, h5, rv], .same hr ⟨r', rfl, h6⟩⟩
      · cases h
    · cases h
  · rename_i z k el hz hu
    obtain ⟨x, h3, h4⟩ := szero_sound (X := X) hz
    split at h
    · rename_i n hn hw
      split at h
      · rename_i cs hcs
        cases h
        obtain ⟨r', h5, h6⟩ := sfill_sound (h4.wholeC hw) h2 hcs
        exact ⟨_, by simp only [mop, h1, mbuild, h3, hu, hn, h5, rv], .same hr ⟨r', rfl, h6⟩⟩
      · cases h
    · cases h
  · cases h
def spart (P : Program) (t : TypeId) (cs : List SV) (off : Nat) : Option SV :=
  match aggT P t, szOf P t with
  | some true, some n => some (.agg ((cs.drop off).take n))
  | some false, _ => cs[off]?
  | _, _ => none
theorem spart_sound {t : TypeId} {cs : List SV} {xs : List AV} {off : Nat} {v : SV} (hc : RVs X cs xs) (h : spart P t cs off = some v) : ∃ x, mpart P t xs off = some x ∧ RV X v x := by
  unfold spart at h
  unfold mpart
  split at h
  · rename_i n ha hs
    cases h
    rw [ha, hs]
    exact ⟨_, rfl, _, rfl, (hc.drop off).take n⟩
  · rename_i ha
    rw [ha]
    obtain ⟨x, h1, h2⟩ := hc.get h
    exact ⟨x, by simpa using h1, h2⟩
  · cases h
def sfield (P : Program) (t : TypeId) (v : SV) (f : Nat) : Option SV := match P.underlying t, v with
  | some (.struct fs), .agg cs => match fs[f]? with
    | some fd => spart P fd.type cs fd.offset
    | none => none
  | _, _ => none
theorem field_sound (hr : RH X) (he : EvR X e m) {t : TypeId} {x : Operand} {f : Nat} {a v : SV} (hx : e x = some a) (h : sfield P t a f = some v) : ∃ rs, mop P m X.h (.field t x f) = some rs ∧ SRR X (.val v X.sh) rs := by
  obtain ⟨p, h1, h2⟩ := he _ _ hx
  unfold sfield at h
  split at h
  · rename_i fs cs hu
    obtain ⟨xs, rfl, h3⟩ := h2
    split at h
    · rename_i fd hf
      obtain ⟨y, h4, h5⟩ := spart_sound (P := P) h3 h
      exact ⟨_, by simp only [mop, hu, h1, hf, h4, rv], .same hr h5⟩
    · cases h
  · cases h
theorem extract_sound (hr : RH X) (he : EvR X e m) {x : Operand} {i : Nat} {l : List SV} {v : SV} (hx : e x = some (.tup l)) (h : l[i]? = some v) : ∃ rs, mop P m X.h (.extract x i) = some rs ∧ SRR X (.val v X.sh) rs := by
  obtain ⟨p, h1, xs, rfl, h2⟩ := he _ _ hx
  obtain ⟨y, h3, h4⟩ := h2.get h
  exact ⟨_, by simp only [mop, h1, h3, rv], .same hr h4⟩
def okNil : SV → Bool
  | .ptr .. => true
  | .iptr .. => true
  | .gptr .. => true
  | .fn .. => true
  | .ifc .. => true
  | _ => false
theorem nilCheck_sound (hr : RH X) (he : EvR X e m) {x : Operand} {v : SV} (hx : e x = some v) (h : okNil v = true) : ∃ rs, mop P m X.h (.nilCheck x) = some rs ∧ SRR X (.val v X.sh) rs := by
  obtain ⟨p, h1, h2⟩ := he _ _ hx
  unfold okNil at h
  split at h
  · have h3 := h2; obtain ⟨_, _, rfl⟩ := h2; exact ⟨_, by simp only [mop, h1], .same hr h3⟩
  · have h3 := h2; obtain ⟨_, _, _, _, _, rfl, _⟩ := h2; exact ⟨_, by simp only [mop, h1], .same hr h3⟩
  · have h3 := h2; cases (show p = _ from h2); exact ⟨_, by simp only [mop, h1], .same hr h3⟩
  · have h3 := h2; obtain ⟨_, _, rfl, _⟩ := h2; exact ⟨_, by simp only [mop, h1], .same hr h3⟩
  · have h3 := h2; obtain ⟨_, rfl, _⟩ := h2; exact ⟨_, by simp only [mop, h1], .same hr h3⟩
  · cases h
def isIface (P : Program) (t : TypeId) : Bool := match P.underlying t with
  | some (.interface _) => true
  | none => true
  | _ => false
theorem makeInterface_sound (hr : RH X) (he : EvR X e m) {t : TypeId} {x : Operand} {v : SV} (hx : e x = some v) (h : isIface P t = false) : ∃ rs, mop P m X.h (.makeInterface t x) = some rs ∧ SRR X (.val (.ifc t v) X.sh) rs := by
  obtain ⟨p, h1, h2⟩ := he _ _ hx
  refine ⟨.val (.ifc t p) X.h, ?_, .same hr ⟨p, rfl, h2⟩⟩
  unfold isIface at h
  cases hu : P.underlying t with
  | none => rw [hu] at h; cases h
  | some d => rw [hu] at h; cases d <;> first | (cases h; done) | simp only [mop, h1, hu]
theorem makeFunc_sound (hr : RH X) (he : EvR X e m) {f : FuncId} {first cap : Array Operand} {a b : List SV} (ha : sevs e first.toList = some a) (hb : sevs e cap.toList = some b) : ∃ rs, mop P m X.h (.makeFunc (.func f) first cap) = some rs ∧ SRR X (.val (.fn f a b) X.sh) rs := by
  obtain ⟨xa, h1, h2⟩ := sevs_sound he ha
  obtain ⟨xb, h3, h4⟩ := sevs_sound he hb
  exact ⟨_, by simp only [mop, h1, h3], .same hr ⟨_, _, rfl, h2, h4⟩⟩

/-! Places of fields and of elements. -/
def sfieldAddr (P : Program) (s : TypeId) (v : SV) (f : Nat) (h : SH) : Option SV :=
  match P.underlying s with
  | some (.struct fs) => match fs[f]? with
    | some fd => match szOf P fd.type with
      | some (_ + 1) => match v with
        | .ptr loc off lim => some (.ptr loc (off + fd.offset) lim)
        | .eptr loc n i fo => match h[loc]? with
          | some (.seq _ _ k _) => match Nat.beq k n with
            | true => some (.eptr loc n i (fo + fd.offset))
            | false => none
          | _ => none
        | .iptr u y fo => some (.iptr u y (fo + fd.offset))
        | .gptr g off lim => some (.gptr g (off + fd.offset) lim)
        | _ => none
      | _ => none
    | none => none
  | _ => none
theorem sfieldAddr_sound {s : TypeId} {f : Nat} {a v : SV} {x : AV} (ha : RV X a x) (h : sfieldAddr P s a f X.sh = some v) : ∃ y, mfieldAddr P s x f = some y ∧ RV X v y := by
  unfold sfieldAddr at h
  split at h
  · rename_i fs hu
    split at h
    · rename_i fd hf
      split at h
      · rename_i z hz
        have hk : ∀ loc off ver lim, mfieldAddr P s (.ptr loc off ver lim) f = some (.ptr loc (off + fd.offset) ver lim) := fun _ _ _ _ => by simp only [mfieldAddr, hu, hf, hz]
        split at h
        · cases h; obtain ⟨m, h1, rfl⟩ := ha; exact ⟨_, hk _ _ _ _, m, h1, rfl⟩
        · split at h
          · rename_i loc n i fo _ u l k md hb
            split at h
            · rename_i hkn
              have hkn := Nat_beq hkn
              subst hkn
              cases h
              obtain ⟨hone, o, ho, hc⟩ := ha
              obtain ⟨hi, m, ver, lim, rfl, rfl, hlim⟩ := (hc _ _ _ _ hb).2 rfl
              refine ⟨_, hk _ _ _ _, rfl, some (m, ver), ho, fun u' l' k' md' hb' => ?_⟩
              rw [hb] at hb'; cases hb'
              exact ⟨Nat.le_refl _, fun _ => ⟨hi, m, ver, lim, rfl, by rw [Nat.add_assoc], hlim⟩⟩
            · cases h
          · cases h
        · cases h; obtain ⟨m, off, ver, lim, cs, rfl, h1⟩ := ha; exact ⟨_, hk _ _ _ _, m, off, ver, lim, cs, by rw [Nat.add_assoc], h1⟩
        · cases h; cases (show x = _ from ha); exact ⟨_, hk _ _ _ _, rfl⟩
        · cases h
      · cases h
    · cases h
  · cases h
theorem fieldAddr_sound (hr : RH X) (he : EvR X e m) {s : TypeId} {x : Operand} {f : Nat} {a v : SV} (hx : e x = some a) (h : sfieldAddr P s a f X.sh = some v) : ∃ rs, mop P m X.h (.fieldAddr s x f) = some rs ∧ SRR X (.val v X.sh) rs := by
  obtain ⟨p, h1, h2⟩ := he _ _ hx
  obtain ⟨y, h3, h4⟩ := sfieldAddr_sound h2 h
  exact ⟨_, by simp only [mop, h1, h3, rv], .same hr h4⟩
def inb (i : Int) (len : Nat) : Bool := decide (0 ≤ i) && decide (i < len)
theorem inb_iff {i : Int} {len : Nat} (h : inb i len = true) : 0 ≤ i ∧ i < len ∧ i.toNat < len := by
  unfold inb at h; simp only [Bool.and_eq_true, decide_eq_true_eq] at h; omega
def sidx : SV → Option Int
  | .a (.int _ n) => some n
  | .u8 b => some (b.toNat : Int)
  | _ => none
theorem sidx_sound {v : SV} {x : AV} {n : Int} (h : sidx v = some n) (hv : RV X v x) : ∃ k, x = .int k n := by
  unfold sidx at h
  split at h
  · cases h; cases (show x = _ from hv); exact ⟨_, rfl⟩
  · cases h; cases (show x = _ from hv); exact ⟨_, rfl⟩
  · cases h
def elSz (P : Program) (t : TypeId) (n : Nat) : Bool := match P.underlying t with
  | some (.slice e) => match szOf P e with
    | some z => Nat.beq z n
    | none => false
  | _ => false
theorem elSz_iff {t : TypeId} {n : Nat} (h : elSz P t n = true) : ∃ el, P.underlying t = some (.slice el) ∧ szOf P el = some n := by
  unfold elSz at h
  split at h
  · rename_i el hu
    split at h
    · rename_i z hz; exact ⟨el, hu, by rw [hz, Nat_beq h]⟩
    · cases h
  · cases h
def sindexAddr (P : Program) (t : TypeId) (x : SV) (i : Int) (h : SH) : Option (Bool × SV) :=
  match x with
  | .isl u l => match elSz P t u.sz with
    | true => some (inb i l.length, .iptr u (nth u l i.toNat) 0)
    | false => none
  | .cl u l => match elSz P t u.sz with
    | true => some (inb i l.length, .iptr u (nth u l i.toNat) 0)
    | false => none
  | .gs loc n => match h[loc]? with
    | some (.seq u l k _) => match Nat.beq k n, elSz P t u.sz with
      | true, true => some (inb i l.length, .eptr loc n i.toNat 0)
      | _, _ => none
    | _ => none
  | .sl loc n off len _ => match h[loc]? with
    | some (.seq u l k _) => match Nat.beq k n, elSz P t u.sz with
      | true, true => some (inb i len, .eptr loc n (off + i.toNat) 0)
      | _, _ => none
    | _ => none
  | .aptr loc n len => match h[loc]? with
    | some (.seq u l k _) => match P.underlying t with
      | some (.array len' e) => match szOf P e with
        | some z => match Nat.beq k n, Nat.beq z u.sz, Nat.beq len' len with
          | true, true, true => some (inb i len, .eptr loc n i.toNat 0)
          | _, _, _ => none
        | none => none
      | _ => none
    | _ => none
  | .csl loc off n sz => match elSz P t sz with
    | true => some (inb i n, .ptr loc (off + i.toNat * sz) (off + n * sz))
    | false => none
  | .ptr loc off lim => match P.underlying t with
    | some (.array len e) => match szOf P e with
      | some z => some (inb i len, .ptr loc (off + i.toNat * z) lim)
      | none => none
    | _ => none
  | .gptr g off lim => match P.underlying t with
    | some (.array len e) => match szOf P e with
      | some z => some (inb i len, .gptr g (off + i.toNat * z) lim)
      | none => none
    | _ => none
  | _ => none
theorem idx_slice {t : TypeId} {n : Nat} (hz : elSz P t n = true) {loc off len ver : Nat} {c : Bool} {k : IntKind} {i : Int} (hi : inb i len = true) : mindexAddr P t (.sl loc off len n ver c) (.int k i) = some (.ptr loc (off + i.toNat * n) ver (off + len * n)) := by
  obtain ⟨el, hu, hs⟩ := elSz_iff hz
  obtain ⟨h1, h2, h3⟩ := inb_iff hi
  simp only [mindexAddr, hu, hs]
  rw [if_pos ⟨trivial, h1, h2⟩]
theorem idx_isl {t : TypeId} {u : U} {l : List (El u)} {c : Bool} {x : AV} {k : IntKind} {i : Int} (hv : RSl X.h X.Φ c u l x) (hz : elSz P t u.sz = true) (hi : inb i l.length = true) : ∃ y, mindexAddr P t x (.int k i) = some y ∧ RV X (.iptr u (nth u l i.toNat) 0) y := by
  obtain ⟨h1, h2, h3⟩ := inb_iff hi
  rcases hv with ⟨rfl, _⟩ | ⟨m, off, ver, c', cs, rfl, q0, q1, q2, q3⟩
  · simp at h3
  · refine ⟨_, idx_slice hz hi, m, off + i.toNat * u.sz, ver, off + l.length * u.sz, part u.sz cs i.toNat, by rw [Nat.add_zero], q1, ?_, ⟨off + l.length * u.sz, ?_⟩, ?_, ?_⟩
    · have : i.toNat * u.sz + u.sz ≤ l.length * u.sz := by rw [← Nat.succ_mul]; exact Nat.mul_le_mul_right _ h3
      omega
    · have hm : i.toNat * u.sz + u.sz ≤ l.length * u.sz := by rw [← Nat.succ_mul]; exact Nat.mul_le_mul_right _ h3
      unfold rd at q2 ⊢
      split at q2
      · split at q2
        · rename_i hc
          cases q2
          rw [if_pos ⟨hc.1, by omega⟩, part_eq, List.drop_take, List.drop_drop, List.take_take, Nat.min_eq_left (by omega)]
        · cases q2
      · split at q2
        · cases q2
          rw [if_pos (by omega), part_eq, List.drop_take, List.drop_drop, List.take_take, Nat.min_eq_left (by omega)]
        · cases q2
      · cases q2
    · exact (q3.2 _ _ (nth_get h3)).length
    · exact q3.2 _ _ (nth_get h3)
theorem sindexAddr_sound (hr : RH X) {t : TypeId} {a v : SV} {x : AV} {k : IntKind} {i : Int} (ha : RV X a x) (h : sindexAddr P t a i X.sh = some (true, v)) : ∃ y, mindexAddr P t x (.int k i) = some y ∧ RV X v y := by
  unfold sindexAddr at h
  split at h
  · split at h
    · rename_i hz; simp only [Option.some.injEq, Prod.mk.injEq] at h; obtain ⟨hi, rfl⟩ := h; exact idx_isl ha hz hi
    · cases h
  · split at h
    · rename_i hz; simp only [Option.some.injEq, Prod.mk.injEq] at h; obtain ⟨hi, rfl⟩ := h; exact idx_isl ha.1 hz hi
    · cases h
  · split at h
    · rename_i loc n _ u l k' md hb
      split at h
      · rename_i hk hz
        simp only [Option.some.injEq, Prod.mk.injEq] at h; obtain ⟨hi, rfl⟩ := h
        have hk := Nat_beq hk
        subst hk
        obtain ⟨h1, h2, h3⟩ := inb_iff hi
        obtain ⟨hone, o, ho, hc⟩ := ha
        have hQ := (hc _ _ _ _ hb).2 rfl
        cases o with
        | none => obtain ⟨_, hl⟩ := hQ; omega
        | some p =>
          obtain ⟨m, ver⟩ := p
          cases (show x = _ from hQ)
          refine ⟨_, idx_slice hz hi, rfl, some (m, ver), ho, fun u' l' k' md' hb' => ?_⟩
          rw [hb] at hb'; cases hb'
          refine ⟨Nat.le_refl _, fun _ => ⟨h3, m, ver, _, rfl, by rw [Nat.add_zero, Nat.zero_add], ?_⟩⟩
          rw [Nat.zero_add]; exact Nat.mul_le_mul_right _ h3
      · cases h
    · cases h
  · split at h
    · rename_i loc n off len c _ u l k' md hb
      split at h
      · rename_i hk hz
        simp only [Option.some.injEq, Prod.mk.injEq] at h; obtain ⟨hi, rfl⟩ := h
        have hk := Nat_beq hk
        subst hk
        obtain ⟨h1, h2, h3⟩ := inb_iff hi
        obtain ⟨hone, o, ho, hc⟩ := ha
        obtain ⟨hl, hQ⟩ := (hc _ _ _ _ hb).2 rfl
        cases o with
        | none =>
          have hl0 : l = [] := hr.blk _ _ _ hb ho
          rw [hl0] at hl; simp at hl; omega
        | some p =>
          obtain ⟨m, ver⟩ := p
          cases (show x = _ from hQ)
          refine ⟨_, idx_slice hz hi, rfl, some (m, ver), ho, fun u' l' k' md' hb' => ?_⟩
          rw [hb] at hb'; cases hb'
          refine ⟨Nat.le_refl _, fun _ => ⟨by omega, m, ver, _, rfl, by rw [Nat.add_zero, Nat.add_mul], ?_⟩⟩
          rw [← Nat.add_mul]; exact Nat.mul_le_mul_right _ (by omega)
      · cases h
    · cases h
  · split at h
    · rename_i loc n len _ u l k' md hb
      split at h
      · rename_i len' el hu
        split at h
        · rename_i z hz
          split at h
          · rename_i hk hz2 hl2
            have hk := Nat_beq hk; have hz2 := Nat_beq hz2; have hl2 := Nat_beq hl2
            subst hk; subst hz2; subst hl2
            simp only [Option.some.injEq, Prod.mk.injEq] at h; obtain ⟨hi, rfl⟩ := h
            obtain ⟨h1, h2, h3⟩ := inb_iff hi
            obtain ⟨hone, o, ho, hc⟩ := ha
            obtain ⟨hl, m, rfl, rfl⟩ := (hc _ _ _ _ hb).2 rfl
            refine ⟨.ptr m (0 + i.toNat * u.sz) 0 (len' * u.sz), ?_, rfl, some (m, 0), ho, fun u' l' k2 md' hb' => ?_⟩
            · simp only [mindexAddr, hu, hz]
              rw [if_pos ⟨h1, h2⟩]
            · rw [hb] at hb'; cases hb'
              exact ⟨Nat.le_refl _, fun _ => ⟨by omega, m, 0, _, rfl, by rw [Nat.add_zero, Nat.zero_add], Nat.mul_le_mul_right _ h3⟩⟩
          · cases h
        · cases h
      · cases h
    · cases h
  · split at h
    · rename_i hz
      simp only [Option.some.injEq, Prod.mk.injEq] at h; obtain ⟨hi, rfl⟩ := h
      obtain ⟨m, h4, rfl⟩ := ha
      exact ⟨_, idx_slice hz hi, m, h4, rfl⟩
    · cases h
  · split at h
    · rename_i len el hu
      split at h
      · rename_i z hz
        simp only [Option.some.injEq, Prod.mk.injEq] at h; obtain ⟨hi, rfl⟩ := h
        obtain ⟨h1, h2, h3⟩ := inb_iff hi
        obtain ⟨m, h4, rfl⟩ := ha
        refine ⟨_, ?_, m, h4, rfl⟩
        simp only [mindexAddr, hu, hz]
        rw [if_pos ⟨h1, h2⟩]
      · cases h
    · cases h
  · split at h
    · rename_i len el hu
      split at h
      · rename_i z hz
        simp only [Option.some.injEq, Prod.mk.injEq] at h; obtain ⟨hi, rfl⟩ := h
        obtain ⟨h1, h2, h3⟩ := inb_iff hi
        cases (show x = _ from ha)
        refine ⟨_, ?_, rfl⟩
        simp only [mindexAddr, hu, hz]
        rw [if_pos ⟨h1, h2⟩]
      · cases h
    · cases h
  · cases h
theorem indexAddr_sound (hr : RH X) (he : EvR X e m) {t : TypeId} {ox oi : Operand} {a b v : SV} {i : Int} (hx : e ox = some a) (hi : e oi = some b) (hb : sidx b = some i) (h : sindexAddr P t a i X.sh = some (true, v)) : ∃ rs, mop P m X.h (.indexAddr t ox oi) = some rs ∧ SRR X (.val v X.sh) rs := by
  obtain ⟨p, h1, h2⟩ := he _ _ hx
  obtain ⟨q, h3, h4⟩ := he _ _ hi
  obtain ⟨k, rfl⟩ := sidx_sound hb h4
  obtain ⟨y, h5, h6⟩ := sindexAddr_sound hr (k := k) h2 h
  exact ⟨_, by simp only [mop, h1, h3, h5, rv], .same hr h6⟩
end
end Go.Sx

/- The symbolic machine S: elements, parts, lengths, conversions, maps. -/
set_option linter.unusedVariables false
set_option linter.unusedSimpArgs false
namespace Go.Sx
open Go Go.Gx Go.Mx

section
variable {P : Program} {gl : GL} {X : Gst} {e : Operand → Option SV} {m : Operand → Option AV}
def ints (k : IntKind) : List SV → Option (List Int)
  | [] => some []
  | .a (.int k' n) :: l => if k = k' then match ints k l with
    | some r => some (n :: r)
    | none => none
    else none
  | _ => none
def u8s : List SV → Option (List UInt8)
  | [] => some []
  | .u8 b :: l => match u8s l with
    | some r => some (b :: r)
    | none => none
  | _ => none
theorem ints_sound {k : IntKind} {cs : List SV} {xs : List AV} {l : List Int} (hc : RVs X cs xs) (h : ints k cs = some l) : xs = l.map (.int k) := by
  induction cs generalizing xs l with
  | nil => cases h; exact hc
  | cons v cs ih =>
    obtain ⟨x, t, rfl, h1, h2⟩ := hc
    unfold ints at h
    split at h
    · cases ‹_ = []›
    · rename_i k' n l' heq
      cases heq
      split at h
      · rename_i hk
        subst hk
        split at h
        · rename_i r hr; cases h; cases (show x = _ from h1); rw [ih h2 hr]; rfl
        · cases h
      · cases h
    · cases h
theorem u8s_sound {cs : List SV} {xs : List AV} {l : List UInt8} (hc : RVs X cs xs) (h : u8s cs = some l) : xs = l.map byteAV := by
  induction cs generalizing xs l with
  | nil => cases h; exact hc
  | cons v cs ih =>
    obtain ⟨x, t, rfl, h1, h2⟩ := hc
    unfold u8s at h
    split at h
    · cases ‹_ = []›
    · rename_i b l' heq
      cases heq
      split at h
      · rename_i r hr; cases h; cases (show x = _ from h1); rw [ih h2 hr]; rfl
      · cases h
    · cases h
def sindex (P : Program) (t : TypeId) (x : SV) (i : Int) : Option (Bool × SV) :=
  match P.underlying t, x with
  | some .string, .a (.str l) => some (inb i l.length, .u8 (nth .u8 l i.toNat))
  | some (.array n e), .agg cs => match P.underlying e, szOf P e with
    | some (.int .u8), some 1 => match u8s cs with
      | some l => some (inb i n && inb i l.length, .u8 (nth .u8 l i.toNat))
      | none => none
    | some (.int k), some 1 => match ints k cs with
      | some l => some (inb i n && inb i l.length, .a (.int k (nth (.int k) l i.toNat)))
      | none => none
    | _, _ => none
  | _, _ => none
theorem aggT_int {t : TypeId} {k : IntKind} (h : P.underlying t = some (.int k)) : aggT P t = some false := by unfold aggT; rw [h]
theorem index_sound (hr : RH X) (he : EvR X e m) {t : TypeId} {ox oi : Operand} {a b v : SV} {i : Int} (hx : e ox = some a) (hi : e oi = some b) (hb : sidx b = some i) (h : sindex P t a i = some (true, v)) : ∃ rs, mop P m X.h (.index t ox oi) = some rs ∧ SRR X (.val v X.sh) rs := by
  obtain ⟨p, h1, h2⟩ := he _ _ hx
  obtain ⟨q, h3, h4⟩ := he _ _ hi
  obtain ⟨k, rfl⟩ := sidx_sound hb h4
  suffices hk : ∃ y, mindex P t p (.int k i) = some y ∧ RV X v y by
    obtain ⟨y, h5, h6⟩ := hk
    exact ⟨_, by simp only [mop, h1, h3, h5, rv], .same hr h6⟩
  unfold sindex at h
  split at h
  · rename_i l hu
    simp only [Option.some.injEq, Prod.mk.injEq] at h; obtain ⟨hi, rfl⟩ := h
    obtain ⟨k1, k2, k3⟩ := inb_iff hi
    cases (show p = _ from h2)
    refine ⟨byteAV (nth .u8 l i.toNat), ?_, rfl⟩
    simp only [mindex, hu]
    rw [if_pos k1, nth_get (u := .u8) k3]
  · rename_i n el cs hu
    obtain ⟨xs, rfl, hc⟩ := h2
    split at h
    · rename_i he1 hs
      split at h
      · rename_i l hl
        simp only [Option.some.injEq, Prod.mk.injEq, Bool.and_eq_true] at h; obtain ⟨⟨hi1, hi2⟩, rfl⟩ := h
        obtain ⟨k1, k2, k3⟩ := inb_iff hi1
        obtain ⟨_, _, k4⟩ := inb_iff hi2
        cases u8s_sound hc hl
        refine ⟨byteAV (nth .u8 l i.toNat), ?_, rfl⟩
        simp only [mindex, hu, hs]
        rw [if_pos ⟨k1, k2⟩, Nat.mul_one]
        simp only [mpart, aggT_int he1]
        rw [List.getElem?_map, nth_get (u := .u8) k4]; rfl
      · cases h
    · rename_i k' _ he1 hs
      split at h
      · rename_i l hl
        simp only [Option.some.injEq, Prod.mk.injEq, Bool.and_eq_true] at h; obtain ⟨⟨hi1, hi2⟩, rfl⟩ := h
        obtain ⟨k1, k2, k3⟩ := inb_iff hi1
        obtain ⟨_, _, k4⟩ := inb_iff hi2
        cases ints_sound hc hl
        refine ⟨.int k' (nth (.int k') l i.toNat), ?_, rfl⟩
        simp only [mindex, hu, hs]
        rw [if_pos ⟨k1, k2⟩, Nat.mul_one]
        simp only [mpart, aggT_int he1]
        rw [List.getElem?_map, nth_get (u := .int k') k4]; rfl
      · cases h
    · cases h
  · cases h

/-! Parts of strings and slices. -/
theorem rd_sub {h : Heap} {m off ver lim N : Nat} {cs : List AV} (q : rd h m off ver lim N = some cs) {o n lim' : Nat} (ho : o + n ≤ N) (hl : off + o + n ≤ lim') : rd h m (off + o) ver lim' n = some ((cs.drop o).take n) := by
  unfold rd at q ⊢
  split at q
  · split at q
    · rename_i hc
      cases q
      rw [if_pos ⟨hc.1, hl⟩, List.drop_take, List.drop_drop, List.take_take, Nat.min_eq_left (by omega)]
    · cases q
  · split at q
    · cases q
      rw [if_pos hl, List.drop_take, List.drop_drop, List.take_take, Nat.min_eq_left (by omega)]
    · cases q
  · cases q
theorem RSl.part {c c' : Bool} {u : U} {l : List (El u)} {m off ver : Nat} {cs : List AV} (h1 : X.Φ m) (h2 : rd X.h m off ver (off + l.length * u.sz) (l.length * u.sz) = some cs) (h3 : RCs X.h X.Φ u l cs) {a n : Nat} (hl : a + n ≤ l.length) :
    RSl X.h X.Φ c' u (slice l a (a + n)) (.sl m (off + a * u.sz) n u.sz ver c') := by
  have hlen := slice_length hl
  have hm : a * u.sz + n * u.sz ≤ l.length * u.sz := by rw [← Nat.add_mul]; exact Nat.mul_le_mul_right _ hl
  refine .inr ⟨m, off + a * u.sz, ver, _, _, by rw [hlen], .inl rfl, h1, ?_, h3.slice hl⟩
  rw [hlen]
  exact rd_sub h2 hm (Nat.le_refl _)
def bnds (a b : Int) (len : Nat) : Bool := decide (0 ≤ a) && decide (a ≤ b) && decide (b ≤ len)
theorem bnds_iff {a b : Int} {len : Nat} (h : bnds a b len = true) : 0 ≤ a ∧ a ≤ b ∧ b ≤ len ∧ a.toNat + (b.toNat - a.toNat) ≤ len ∧ b.toNat = a.toNat + (b.toNat - a.toNat) := by
  unfold bnds at h; simp only [Bool.and_eq_true, decide_eq_true_eq] at h; omega
def sbound (e : Operand → Option SV) : Option Operand → Option (Option Int)
  | none => some none
  | some x => match e x with
    | some v => match sidx v with
      | some n => some (some n)
      | none => none
    | none => none
theorem sbound_sound (he : EvR X e m) {o : Option Operand} {r : Option Int} (h : sbound e o = some r) : mbound m o = some r := by
  cases o with
  | none => exact h
  | some x =>
    simp only [sbound] at h
    split at h
    · rename_i v hv
      split at h
      · rename_i n hn
        cases h
        obtain ⟨p, h1, h2⟩ := he _ _ hv
        obtain ⟨k, rfl⟩ := sidx_sound hn h2
        simp only [mbound, h1]
      · cases h
    · cases h
/-- The third bound: none, or the second one. -/
def mxOk (hi mx : Option Int) (b : Int) : Bool := match mx with
  | none => true
  | some m => decide (m = b) && hi.isSome
def bndsE {α : Type} (a : Int) (l : List α) : Bool := bnds a ((List.length l : Nat) : Int) (List.length l)
def elZ (P : Program) (t : TypeId) : Option Nat := match P.underlying t with
  | some (.slice e) => szOf P e
  | _ => none
theorem elZ_sz {t : TypeId} {z : Nat} (h : elZ P t = some z) : elSz P t z = true := by
  unfold elZ at h
  unfold elSz
  revert h
  cases P.underlying t with
  | none => intro h; cases h
  | some d => cases d <;> intro h <;> first | (cases h; done) | (simp only at h ⊢; simp [h])
def sslice (P : Program) (t : TypeId) (v : SV) (lo hi mx : Option Int) (h : SH) : Option (Bool × SV) :=
  match v with
  | .a (.str l) => match P.underlying t, mx with
    | some .string, none => some (bnds (lo.getD 0) (hi.getD l.length) l.length, .a (.str (slice l (lo.getD 0).toNat (hi.getD l.length).toNat)))
    | _, _ => none
  | .a .nils => match elZ P t with
    | some _ => some (bnds (lo.getD 0) (hi.getD (0 : Nat)) 0 && mxOk hi mx (hi.getD (0 : Nat)), .a .nils)
    | none => none
  | .isl u l => match elSz P t u.sz with
    | true => some (bnds (lo.getD 0) (hi.getD l.length) l.length && mxOk hi mx (hi.getD l.length), match mx with
      | none => .isl u (slice l (lo.getD 0).toNat (hi.getD l.length).toNat)
      | some _ => .cl u (slice l (lo.getD 0).toNat (hi.getD l.length).toNat))
    | false => none
  | .gs loc n => match h[loc]? with
    | some (.seq u l k _) => match Nat.beq k n, elSz P t u.sz with
      | true, true => some (bnds (lo.getD 0) (hi.getD l.length) l.length && mxOk hi mx (hi.getD l.length), .sl loc n (lo.getD 0).toNat ((hi.getD l.length).toNat - (lo.getD 0).toNat) mx.isSome)
      | _, _ => none
    | _ => none
  | .aptr loc n len => match h[loc]?, mx with
    | some (.seq u l k _), none => match P.underlying t with
      | some (.array len' e) => match szOf P e with
        | some z => match Nat.beq k n && Nat.beq z u.sz && Nat.beq len' len && Nat.blt 0 z && Nat.blt len 549755813888 with
          | true => some (bnds (lo.getD 0) (hi.getD len) len, .sl loc n (lo.getD 0).toNat ((hi.getD len).toNat - (lo.getD 0).toNat) false)
          | false => none
        | none => none
      | _ => none
    | _, _ => none
  | .sl loc n off len false => match h[loc]? with
    | some (.seq u l k _) => match Nat.beq k n, elSz P t u.sz with
      | true, true => some (bnds (lo.getD 0) (hi.getD len) len && mxOk hi mx (hi.getD len), .sl loc n (off + (lo.getD 0).toNat) ((hi.getD len).toNat - (lo.getD 0).toNat) mx.isSome)
      | _, _ => none
    | _ => none
  | _ => none
theorem mslice_sl {t : TypeId} {loc off len sz ver : Nat} {lo hi mx : Option Int} {h : Heap} (hz : elSz P t sz = true) (hb : bnds (lo.getD 0) (hi.getD len) len = true) (hm : mxOk hi mx (hi.getD len) = true) :
    mslice P t (.sl loc off len sz ver false) lo hi mx h = some (.sl loc (off + (lo.getD 0).toNat * sz) ((hi.getD len).toNat - (lo.getD 0).toNat) sz ver mx.isSome) := by
  obtain ⟨el, hu, hs⟩ := elSz_iff hz
  obtain ⟨h1, h2, h3, _⟩ := bnds_iff hb
  simp only [mslice, hu, hs]
  rw [if_pos ⟨trivial, h1, h2, h3⟩]
  cases mx with
  | none => simp
  | some k => simp [mxOk] at hm; simp [hm]
theorem mslice_emp {t : TypeId} {loc off sz ver len : Nat} {c : Bool} {lo hi mx : Option Int} {h : Heap} (hz : elSz P t sz = true) (hb : bnds (lo.getD 0) (hi.getD len) len = true) (hm : mxOk hi mx (hi.getD len) = true) (hl : len = 0) :
    ∃ c', (mx.isSome = true → c' = true) ∧ mslice P t (.sl loc off len sz ver c) lo hi mx h = some (.sl loc (off + (lo.getD 0).toNat * sz) ((hi.getD len).toNat - (lo.getD 0).toNat) sz ver c') := by
  obtain ⟨el, hu, hs⟩ := elSz_iff hz
  obtain ⟨h1, h2, h3, _⟩ := bnds_iff hb
  simp only [mslice, hu, hs]
  rw [if_pos ⟨trivial, h1, h2, h3⟩]
  cases mx with
  | none => exact ⟨c, (fun h => absurd h (by simp)), by rw [if_neg (by omega)]⟩
  | some k => simp [mxOk] at hm; exact ⟨true, (fun _ => rfl), by simp [hm]⟩
theorem mslice_nil {t : TypeId} {sz : Nat} {lo hi mx : Option Int} {h : Heap} (hz : elSz P t sz = true) (hb : bnds (lo.getD 0) (hi.getD (0 : Nat)) 0 = true) (hm : mxOk hi mx (hi.getD (0 : Nat)) = true) : mslice P t .nils lo hi mx h = some .nils := by
  obtain ⟨el, hu, hs⟩ := elSz_iff hz
  obtain ⟨h1, h2, h3, _⟩ := bnds_iff hb
  simp only [mslice, hu]
  rw [if_pos]
  have e1 : lo.getD 0 = 0 := by omega
  have e2 : hi.getD 0 = 0 := by have : hi.getD 0 = hi.getD ((0 : Nat) : Int) := rfl; omega
  refine ⟨e1, e2, ?_, ?_, by rw [hs]; rfl⟩
  · cases mx with
    | none => rfl
    | some k => simp [mxOk] at hm; simp [hm.1]; exact e2
  · cases mx with
    | none => simp
    | some k => simp [mxOk] at hm; simp [hm.2]
theorem sslice_sound (hr : RH X) {t : TypeId} {a v : SV} {x : AV} {lo hi mx : Option Int} (ha : RV X a x) (h : sslice P t a lo hi mx X.sh = some (true, v)) : ∃ y, mslice P t x lo hi mx X.h = some y ∧ RV X v y := by
  unfold sslice at h
  split at h
  · rename_i l
    split at h
    · rename_i hu
      simp only [Option.some.injEq, Prod.mk.injEq] at h; obtain ⟨hb, rfl⟩ := h
      obtain ⟨h1, h2, h3, _⟩ := bnds_iff hb
      cases (show x = _ from ha)
      refine ⟨_, ?_, rfl⟩
      simp only [mslice, hu]
      rw [if_pos ⟨rfl, h1, h2, h3⟩]; rfl
    · cases h
  · split at h
    · rename_i z hz
      simp only [Option.some.injEq, Prod.mk.injEq, Bool.and_eq_true] at h; obtain ⟨⟨hb, hm⟩, rfl⟩ := h
      cases (show x = _ from ha)
      exact ⟨.nils, mslice_nil (elZ_sz hz) hb hm, rfl⟩
    · cases h
  · rename_i u l
    split at h
    · rename_i hz
      simp only [Option.some.injEq, Prod.mk.injEq, Bool.and_eq_true] at h; obtain ⟨⟨hb, hm⟩, rfl⟩ := h
      obtain ⟨h1, h2, h3, h4, h5⟩ := bnds_iff hb
      rcases ha with ⟨rfl, rfl⟩ | ⟨m', off, ver, c', cs, rfl, q0, q1, q2, q3⟩
      · refine ⟨.nils, mslice_nil hz hb hm, ?_⟩
        cases mx with
        | none => exact .inl ⟨by simp [slice], rfl⟩
        | some k => exact ⟨.inl ⟨by simp [slice], rfl⟩, trivial⟩
      · by_cases hl0 : l = []
        · obtain ⟨c2, hc3, hc2⟩ := mslice_emp (loc := m') (off := off) (ver := ver) (c := c') (h := X.h) hz hb hm (by rw [hl0]; rfl)
          refine ⟨_, hc2, ?_⟩
          have e1 : slice l (lo.getD 0).toNat (hi.getD l.length).toNat = [] := by rw [hl0]; simp [slice]
          have hln : l.length = 0 := by rw [hl0]; rfl
          have k1 : (hi.getD l.length).toNat - (lo.getD 0).toNat = 0 := by omega
          have k2 : (lo.getD 0).toNat = 0 := by omega
          rw [e1, k1, k2, Nat.zero_mul, Nat.add_zero]
          have q4 := rd_sub q2 (o := 0) (n := 0) (lim' := off) (Nat.zero_le _) (by omega)
          have : ∀ c0, RSl X.h X.Φ c0 u [] (.sl m' off 0 u.sz ver c2) := fun c0 => .inr ⟨m', off, ver, c2, [], by rfl, .inr rfl, q1, by simpa using q4, .nil⟩
          cases mx with
          | none => exact this false
          | some k => exact ⟨this true, hc3 rfl⟩
        · have hc' : c' = false := q0.resolve_right hl0
          subst hc'
          refine ⟨_, mslice_sl hz hb hm, ?_⟩
          rw [show slice l (lo.getD 0).toNat (hi.getD l.length).toNat = slice l (lo.getD 0).toNat ((lo.getD 0).toNat + ((hi.getD l.length).toNat - (lo.getD 0).toNat)) from by rw [← h5]]
          cases mx with
          | none => exact RSl.part (c := false) q1 q2 q3 h4
          | some k => exact ⟨RSl.part (c := false) q1 q2 q3 h4, rfl⟩
    · cases h
  · split at h
    · rename_i loc n _ u l k md hb
      split at h
      · rename_i hk hz
        have hk := Nat_beq hk
        subst hk
        simp only [Option.some.injEq, Prod.mk.injEq, Bool.and_eq_true] at h; obtain ⟨⟨hbb, hm⟩, rfl⟩ := h
        obtain ⟨h1, h2, h3, h4, h5⟩ := bnds_iff hbb
        obtain ⟨hone, o, ho, hc⟩ := ha
        have hQ := (hc _ _ _ _ hb).2 rfl
        cases o with
        | none =>
          obtain ⟨rfl, hl⟩ := hQ
          rw [hl] at hbb hm h4
          refine ⟨.nils, mslice_nil hz hbb hm, rfl, none, ho, fun u' l' k' md' hb' => ?_⟩
          rw [hb] at hb'; cases hb'
          exact ⟨Nat.le_refl _, fun _ => ⟨by rw [hl]; exact h4, rfl⟩⟩
        | some p =>
          obtain ⟨m', ver⟩ := p
          cases (show x = _ from hQ)
          refine ⟨_, mslice_sl hz hbb hm, rfl, some (m', ver), ho, fun u' l' k' md' hb' => ?_⟩
          rw [hb] at hb'; cases hb'
          exact ⟨Nat.le_refl _, fun _ => ⟨h4, by rw [Nat.zero_add]⟩⟩
      · cases h
    · cases h
  · split at h
    · rename_i loc n len _ _ u l k md hb
      split at h
      · rename_i len' el hu
        split at h
        · rename_i z hz
          split at h
          · rename_i hall
            simp only [Bool.and_eq_true] at hall
            obtain ⟨⟨⟨⟨hk, hz2⟩, hl2⟩, hzp⟩, h39⟩ := hall
            have hk := Nat_beq hk; have hz2 := Nat_beq hz2; have hl2 := Nat_beq hl2; have hzp : 0 + 1 ≤ z := Nat.le_of_ble_eq_true hzp; have h39 : len + 1 ≤ 549755813888 := Nat.le_of_ble_eq_true h39
            subst hk; subst hl2
            simp only [Option.some.injEq, Prod.mk.injEq] at h; obtain ⟨hbb, rfl⟩ := h
            obtain ⟨h1, h2, h3, h4, h5⟩ := bnds_iff hbb
            obtain ⟨hone, o, ho, hc⟩ := ha
            obtain ⟨hl, m', rfl, rfl⟩ := (hc _ _ _ _ hb).2 rfl
            obtain ⟨cells, minv, tt, q1, q2, q3, q4⟩ := hr.blk _ _ _ hb ho
            obtain ⟨z', rfl⟩ : ∃ z', z = z' + 1 := ⟨z - 1, by omega⟩
            have hcl : cells.length = len' * (z' + 1) := by rw [q3.1, ← hl, ← hz2]
            refine ⟨.sl m' ((lo.getD 0).toNat * (z' + 1)) ((hi.getD len').toNat - (lo.getD 0).toNat) (z' + 1) 0 false, ?_, rfl, some (m', 0), ho, fun u' l' k' md' hb' => ?_⟩
            · simp only [mslice, hu, hz, q1]
              rw [if_pos ⟨rfl, h1, h2, h3, trivial, by omega, by rw [hcl, Nat.zero_add], by rw [hcl, hz2]⟩, Nat.zero_add]
            · rw [hb] at hb'; cases hb'
              exact ⟨Nat.le_refl _, fun _ => ⟨by omega, by rw [hz2]⟩⟩
          · cases h
        · cases h
      · cases h
    · cases h
  · split at h
    · rename_i loc n off len _ u l k md hb
      split at h
      · rename_i hk hz
        have hk := Nat_beq hk
        subst hk
        simp only [Option.some.injEq, Prod.mk.injEq, Bool.and_eq_true] at h; obtain ⟨⟨hbb, hm⟩, rfl⟩ := h
        obtain ⟨h1, h2, h3, h4, h5⟩ := bnds_iff hbb
        obtain ⟨hone, o, ho, hc⟩ := ha
        obtain ⟨hl, hQ⟩ := (hc _ _ _ _ hb).2 rfl
        cases o with
        | none =>
          cases (show x = _ from hQ)
          have hl0 : l = [] := hr.blk _ _ _ hb ho
          have hlen : len = 0 := by rw [hl0] at hl; simp at hl; omega
          subst hlen
          refine ⟨.nils, mslice_nil hz hbb hm, rfl, none, ho, fun u' l' k' md' hb' => ?_⟩
          rw [hb] at hb'; cases hb'
          exact ⟨Nat.le_refl _, fun _ => ⟨by omega, rfl⟩⟩
        | some p =>
          obtain ⟨m', ver⟩ := p
          cases (show x = _ from hQ)
          refine ⟨_, mslice_sl hz hbb hm, rfl, some (m', ver), ho, fun u' l' k' md' hb' => ?_⟩
          rw [hb] at hb'; cases hb'
          exact ⟨Nat.le_refl _, fun _ => ⟨by omega, by rw [Nat.add_mul]⟩⟩
      · cases h
    · cases h
  · cases h
theorem slice_sound (hr : RH X) (he : EvR X e m) {t : TypeId} {ox : Operand} {ol oh om : Option Operand} {a v : SV} {lo hi mx : Option Int} (hx : e ox = some a) (h1 : sbound e ol = some lo) (h2 : sbound e oh = some hi) (h3 : sbound e om = some mx) (h : sslice P t a lo hi mx X.sh = some (true, v)) :
    ∃ rs, mop P m X.h (.slice t ox ol oh om) = some rs ∧ SRR X (.val v X.sh) rs := by
  obtain ⟨p, q1, q2⟩ := he _ _ hx
  obtain ⟨y, q3, q4⟩ := sslice_sound hr q2 h
  exact ⟨_, by simp only [mop, q1, sbound_sound he h1, sbound_sound he h2, sbound_sound he h3, mslice2_of q3, rv], .same hr q4⟩

/-! Lengths. -/
def slen (P : Program) (t : TypeId) (v : SV) (h : SH) : Option Nat := match P.underlying t, v with
  | some .string, .a (.str l) => some l.length
  | some (.array n _), _ => some n
  | some (.slice _), .a .nils => some 0
  | some (.slice _), .isl _ l => some l.length
  | some (.slice _), .cl _ l => some l.length
  | some (.slice _), .gs loc n => match h[loc]? with
    | some (.seq _ l m _) => match Nat.beq m n with
      | true => some l.length
      | false => none
    | _ => none
  | some (.slice _), .sl loc n _ len _ => match h[loc]? with
    | some (.seq _ l m _) => match Nat.beq m n with
      | true => some len
      | false => none
    | _ => none
  | some (.slice _), .lsl n => some n
  | some (.slice _), .csl _ _ n _ => some n
  | some (.map _ _), .a .nilm => some 0
  | some (.map _ _), .map loc => match h[loc]? with
    | some (.map ks _ _) => some ks.length
    | some (.kv _ _ l _) => some l.length
    | _ => none
  | some (.map _ _), .imap ks _ => some ks.length
  | _, _ => none
theorem slen_sound (hr : RH X) {t : TypeId} {v : SV} {x : AV} {n : Nat} (hv : RV X v x) (h : slen P t v X.sh = some n) : mlen P t x X.h = some (.int .i64 (n : Int)) := by
  unfold slen at h
  unfold mlen
  split at h
  · rename_i hu; cases h; cases (show x = _ from hv); rw [hu]
  · rename_i hu; cases h; rw [hu]
  · rename_i hu; cases h; cases (show x = _ from hv); rw [hu]; rfl
  · rename_i hu; cases h; rw [hu]; rcases hv with ⟨rfl, rfl⟩ | ⟨m, off, ver, c', cs, rfl, _⟩ <;> rfl
  · rename_i hu; cases h; rw [hu]; rcases hv.1 with ⟨rfl, rfl⟩ | ⟨m, off, ver, c', cs, rfl, _⟩ <;> rfl
  · rename_i hu
    rw [hu]
    split at h
    · rename_i l k md hb
      split at h
      · rename_i hk
        cases h
        have hk := Nat_beq hk
        subst hk
        obtain ⟨hone, o, ho, hc⟩ := hv
        have hQ := (hc _ _ _ _ hb).2 rfl
        cases o with
        | none => obtain ⟨rfl, hl⟩ := hQ; rw [hl]; rfl
        | some p => cases (show x = _ from hQ); rfl
      · cases h
    · cases h
  · rename_i hu
    rw [hu]
    split at h
    · rename_i l k md hb
      split at h
      · rename_i hk
        cases h
        have hk := Nat_beq hk
        subst hk
        obtain ⟨hone, o, ho, hc⟩ := hv
        obtain ⟨hl, hQ⟩ := (hc _ _ _ _ hb).2 rfl
        cases o with
        | none =>
          cases (show x = _ from hQ)
          have hl0 := hr.blk _ _ _ hb ho
          have hl0 : _ = [] := hl0
          rw [hl0] at hl; simp at hl; rw [hl.2]; rfl
        | some p => cases (show x = _ from hQ); rfl
      · cases h
    · cases h
  · rename_i hu; cases h; rw [hu]; rcases hv with ⟨rfl, rfl⟩ | ⟨m, off, sz, ver, c, rfl⟩ <;> rfl
  · rename_i hu; cases h; obtain ⟨m, _, rfl⟩ := hv; rw [hu]
  · rename_i hu; cases h; cases (show x = _ from hv); rw [hu]; rfl
  · rename_i hu
    rw [hu]
    split at h
    · rename_i ks vs md hb
      cases h
      obtain ⟨m, ⟨ver, hσ⟩, rfl⟩ := hv
      obtain ⟨m', es, e1, h1, h2, h3⟩ := hr.blk _ _ _ hb hσ
      cases e1
      have := h2.length
      simp only [List.length_map] at this
      simp only [h1, this]
    · rename_i u v l md hb
      cases h
      obtain ⟨m, ⟨ver, hσ⟩, rfl⟩ := hv
      obtain ⟨m', es, e1, h1, h2, h3⟩ := hr.blk _ _ _ hb hσ
      cases e1
      have := h2.length
      simp only [List.length_map, kvK] at this
      simp only [h1, this]
    · cases h
  · rename_i hu
    cases h
    rw [hu]
    obtain ⟨m, es, rfl, _, h1, h2, h3⟩ := hv
    have := h2.length
    simp only [List.length_map] at this
    simp only [h1, this]
  · cases h
end
section
variable {P : Program} {gl : GL} {X : Gst} {e : Operand → Option SV} {m : Operand → Option AV}
/-- A table of pairs of bytes among the package variables. -/
def sgPair (P : Program) (el : TypeId) (off n lim : Nat) (cs : List SV) (i : Int) : Option (Bool × SV) :=
  match uOf P 6 el, szOf P el, u8s ((cs.drop off).take (n + n)) with
  | some (.pair .u8 .u8), some 2, some l => match Nat.beq l.length (n + n) && Nat.ble (off + (n + n)) lim with
    | true => some (inb i n, .iptr (.pair .u8 .u8) (nth .u8 l (i.toNat + i.toNat), nth .u8 l (i.toNat + i.toNat + 1)) 0)
    | false => none
  | _, _, _ => none
/-- A table among the package variables, at whatever place. -/
def sgIndex (P : Program) (gl : GL) (t : TypeId) (x : SV) (i : Int) : Option (Bool × SV) := match x with
  | .gptr g off lim => match P.underlying t, gl[g]? with
    | some (.array n el), some (some cs) => match Nat.ble (off + n) lim, P.underlying el, szOf P el with
      | true, some (.int .u8), some 1 => match u8s ((cs.drop off).take n) with
        | some l => some (inb i n && inb i l.length, .iptr .u8 (nth .u8 l i.toNat) 0)
        | none => none
      | true, some (.int k), some 1 => match ints k ((cs.drop off).take n) with
        | some l => some (inb i n && inb i l.length, .iptr (.int k) (nth (.int k) l i.toNat) 0)
        | none => none
      | _, _, _ => sgPair P el off n lim cs i
    | _, _ => none
  | _ => none
theorem sgIndex_sound (hr : RH X) (hg : RGl P gl X) {t : TypeId} {a v : SV} {x : AV} {k : IntKind} {i : Int} (ha : RV X a x) (h : sgIndex P gl t a i = some (true, v)) : ∃ y, mindexAddr P t x (.int k i) = some y ∧ RV X v y := by
  unfold sgIndex at h
  split at h
  · rename_i g off lim
    split at h
    · rename_i n el cs hu hcs
      obtain ⟨_, hΦ, cells, hrow, hcells⟩ := hg g cs hcs
      cases (show x = _ from ha)
      have hsub := (hcells.drop off).take n
      have one : ∀ (y : AV) (j : Nat), ((cells.drop off).take n)[j]? = some y → rd X.h g (off + j) 0 (off + j + 1) 1 = some [y] := fun y j hy => by
        unfold rd
        rw [hrow]
        simp only [Nat.le_refl, if_true]
        rw [List.getElem?_take] at hy
        split at hy
        · rw [List.getElem?_drop] at hy
          congr 1
          obtain ⟨hlt, e⟩ := List.getElem?_eq_some_iff.1 hy
          rw [List.drop_eq_getElem_cons hlt, e]; rfl
        · cases hy
      split at h
      · rename_i hle he1 hs1
        split at h
        · rename_i l hl
          simp only [Option.some.injEq, Prod.mk.injEq, Bool.and_eq_true] at h; obtain ⟨⟨hi, hi2⟩, rfl⟩ := h
          obtain ⟨h1, h2, h3⟩ := inb_iff hi
          obtain ⟨h4, h5, h6⟩ := inb_iff hi2
          have hle := Nat.le_of_ble_eq_true hle
          have hx := u8s_sound hsub hl
          have hy : ((cells.drop off).take n)[i.toNat]? = some (byteAV (nth .u8 l i.toNat)) := by rw [hx, List.getElem?_map, show l[i.toNat]? = some (nth .u8 l i.toNat) from nth_get (u := .u8) h6]; rfl
          refine ⟨.ptr g (off + i.toNat * 1) 0 lim, ?_, g, off + i.toNat, 0, lim, [byteAV (nth .u8 l i.toNat)], by rw [Nat.mul_one, Nat.add_zero], hΦ, ?_, ⟨_, one _ _ hy⟩, rfl, rfl⟩
          · simp only [mindexAddr, hu, hs1]
            rw [if_pos ⟨h1, h2⟩]
          · show off + i.toNat + 1 ≤ lim; omega
        · cases h
      · rename_i k' hnu hle he1 hs1
        split at h
        · rename_i l hl
          simp only [Option.some.injEq, Prod.mk.injEq, Bool.and_eq_true] at h; obtain ⟨⟨hi, hi2⟩, rfl⟩ := h
          obtain ⟨h1, h2, h3⟩ := inb_iff hi
          obtain ⟨h4, h5, h6⟩ := inb_iff hi2
          have hle := Nat.le_of_ble_eq_true hle
          have hx := ints_sound hsub hl
          have hy : ((cells.drop off).take n)[i.toNat]? = some (.int k' (nth (.int k') l i.toNat)) := by rw [hx, List.getElem?_map, show l[i.toNat]? = some (nth (.int k') l i.toNat) from nth_get (u := .int k') h6]; rfl
          refine ⟨.ptr g (off + i.toNat * 1) 0 lim, ?_, g, off + i.toNat, 0, lim, [.int k' (nth (.int k') l i.toNat)], by rw [Nat.mul_one, Nat.add_zero], hΦ, ?_, ⟨_, one _ _ hy⟩, rfl, rfl⟩
          · simp only [mindexAddr, hu, hs1]
            rw [if_pos ⟨h1, h2⟩]
          · show off + i.toNat + 1 ≤ lim; omega
        · cases h
      · unfold sgPair at h
        split at h
        · rename_i l hu6 hs2 hl
          split at h
          · rename_i hb
            simp only [Option.some.injEq, Prod.mk.injEq] at h; obtain ⟨hi, rfl⟩ := h
            rw [Bool.and_eq_true] at hb
            have hll := Nat_beq hb.1
            have hle := Nat.le_of_ble_eq_true hb.2
            obtain ⟨h1, h2, h3⟩ := inb_iff hi
            have hx := u8s_sound ((hcells.drop off).take (n + n)) hl
            have get : ∀ j, j < n + n → cells[off + j]? = some (byteAV (nth .u8 l j)) := fun j hj => by
              have e0 : ((cells.drop off).take (n + n))[j]? = some (byteAV (nth .u8 l j)) := by
                rw [hx, List.getElem?_map, show l[j]? = some (nth .u8 l j) from nth_get (u := .u8) (by omega)]; rfl
              rw [List.getElem?_take, if_pos hj, List.getElem?_drop] at e0
              exact e0
            have g0 := get (i.toNat + i.toNat) (by omega)
            have g1 := get (i.toNat + i.toNat + 1) (by omega)
            have hrd : rd X.h g (off + (i.toNat + i.toNat)) 0 (off + (i.toNat + i.toNat) + 2) 2 = some [byteAV (nth .u8 l (i.toNat + i.toNat)), byteAV (nth .u8 l (i.toNat + i.toNat + 1))] := by
              unfold rd
              rw [hrow]
              simp only [Nat.le_refl, if_true]
              congr 1
              obtain ⟨l0, e0⟩ := List.getElem?_eq_some_iff.1 g0
              obtain ⟨l1, e1⟩ := List.getElem?_eq_some_iff.1 g1
              rw [List.drop_eq_getElem_cons l0, e0, show off + (i.toNat + i.toNat) + 1 = off + (i.toNat + i.toNat + 1) from by omega, List.drop_eq_getElem_cons l1, e1]; rfl
            refine ⟨.ptr g (off + i.toNat * 2) 0 lim, ?_, g, off + (i.toNat + i.toNat), 0, lim, _, by rw [Nat.add_zero, Nat.mul_two], hΦ, ?_, ⟨_, hrd⟩, rfl, ?_⟩
            · simp only [mindexAddr, hu, hs2]
              rw [if_pos ⟨h1, h2⟩]
            · show off + (i.toNat + i.toNat) + 2 ≤ lim; omega
            · exact ⟨[_], [_], rfl, rfl, rfl⟩
          · cases h
        · cases h
    · cases h
  · cases h
theorem gindexAddr_sound (hr : RH X) (hg : RGl P gl X) (he : EvR X e m) {t : TypeId} {ox oi : Operand} {a b v : SV} {i : Int} (hx : e ox = some a) (hi : e oi = some b) (hb : sidx b = some i) (h : sgIndex P gl t a i = some (true, v)) : ∃ rs, mop P m X.h (.indexAddr t ox oi) = some rs ∧ SRR X (.val v X.sh) rs := by
  obtain ⟨p, h1, h2⟩ := he _ _ hx
  obtain ⟨q, h3, h4⟩ := he _ _ hi
  obtain ⟨k, rfl⟩ := sidx_sound hb h4
  obtain ⟨y, h5, h6⟩ := sgIndex_sound hr hg (k := k) h2 h
  exact ⟨_, by simp only [mop, h1, h3, h5, rv], .same hr h6⟩
end
end Go.Sx

/- The symbolic machine S: conversions, assertions, maps. -/
set_option linter.unusedVariables false
set_option linter.unusedSimpArgs false
namespace Go.Sx
open Go Go.Gx Go.Mx

def lim39 : Nat := 549755813888
section
variable {P : Program} {gl : GL} {X : Gst} {e : Operand → Option SV} {m : Operand → Option AV}
theorem toByte_byteAV (b : UInt8) : toByte (byteAV b) = some b := by
  have := b.toNat_lt
  unfold byteAV toByte
  simp only
  rw [if_pos (by omega)]
  simp
theorem toBytes_map (l : List UInt8) : toBytes (l.map byteAV) = some l := by
  induction l with
  | nil => rfl
  | cons b l ih => simp only [List.map_cons, toBytes, toByte_byteAV, ih]
theorem RCs.bytes {h : Heap} {Φ : Nat → Prop} {l : List UInt8} {cs : List AV} (q : RCs h Φ .u8 l cs) : cs = l.map byteAV := by
  have hl := q.1
  simp only [U.sz, Nat.mul_one] at hl
  refine List.ext_getElem? fun i => ?_
  by_cases hi : i < l.length
  · have h1 := q.2 i l[i] (List.getElem?_eq_getElem hi)
    have h2 : part 1 cs i = [byteAV l[i]] := h1
    rw [part_eq, Nat.mul_one] at h2
    have h3 := congrArg (fun r : List AV => r[0]?) h2
    simp only [List.getElem?_take, List.getElem?_drop, Nat.add_zero] at h3
    rw [List.getElem?_map, List.getElem?_eq_getElem hi]
    simpa using h3
  · rw [List.getElem?_eq_none (by omega), List.getElem?_eq_none (by rw [List.length_map]; omega)]
theorem RCs.ofBytes {h : Heap} {Φ : Nat → Prop} (l : List UInt8) : RCs h Φ .u8 l (l.map byteAV) := by
  refine ⟨by simp [U.sz], fun i e hi => ?_⟩
  show part 1 _ i = [byteAV e]
  rw [part_eq, Nat.mul_one]
  have hl := (List.getElem?_eq_some_iff.1 hi).1
  rw [List.drop_eq_getElem_cons (by simpa using hl)]
  simp only [List.take_succ_cons, List.take_zero, List.getElem_map]
  have : l[i] = e := (List.getElem?_eq_some_iff.1 hi).2
  rw [this]

def sconv (P : Program) (s d : TypeId) (x : SV) (h : SH) : Option (Bool × SV × SH) :=
  match P.underlying s, P.underlying d, x with
  | some _, some (.int .u8), .a (.int _ n) => some (true, .u8 (u8of n), h)
  | some _, some (.int .u8), .u8 b => some (true, .u8 b, h)
  | some _, some (.int k), .a (.int _ n) => some (true, .a (.int k (k.wrap n)), h)
  | some _, some (.int k), .u8 b => some (true, .a (.int k (k.wrap (b.toNat : Int))), h)
  | some .string, some .string, .a (.str l) => some (true, .a (.str l), h)
  | some .string, some (.slice e), .a (.str l) => match P.underlying e with
    | some (.int .u8) => some (Nat.blt l.length lim39, .gs h.length 0, h ++ [.seq .u8 l 0 0])
    | _ => none
  | some (.slice e), some .string, x => match P.underlying e with
    | some (.int .u8) => match reads .u8 x h with
      | some l => some (true, .a (.str l), h)
      | none => none
    | _ => none
  | _, _, _ => none
theorem blt_iff {a b : Nat} (h : Nat.blt a b = true) : a < b := by simpa [Nat.blt_eq] using h
/-- A new row. -/
theorem push_row (hr : RH X) {u : U} {l : List (El u)} {cells : List AV} {tt : Option TypeId} (hc : RCs X.h X.Φ u l cells) : ∃ Y, Stp X Y ∧ Y.sh = X.sh ++ [.seq u l 0 0] ∧ Y.h = X.h ++ [Blk.row cells 0 0 0 false tt] ∧ RV Y (.gs X.sh.length 0) (.sl X.h.length 0 l.length u.sz 0 false) := by
  refine ⟨_, Stp.push hr (b := .seq u l 0 0) (blk := .row cells 0 0 0 false tt) (by simp [SB.md]) (fun hle => ⟨cells, 0, tt, ?_, Nat.le_refl _, hc.le hle.h hle.Φ, fun e => by cases e⟩), rfl, rfl, rfl, some (X.h.length, 0), ?_, fun u' l' k' md' hb' => ?_⟩
  · show (X.h ++ [_])[X.h.length]? = _
    rw [Arr.get_app_right (Nat.le_refl _), Nat.sub_self]; rfl
  · show (X.σ ++ [_])[X.sh.length]? = _
    rw [← hr.len, List.getElem?_append_right (Nat.le_refl _), Nat.sub_self]; rfl
  · have hb' : (X.sh ++ [SB.seq u l 0 0])[X.sh.length]? = some (.seq u' l' k' md') := hb'
    rw [List.getElem?_append_right (Nat.le_refl _), Nat.sub_self] at hb'
    cases hb'
    exact ⟨Nat.le_refl _, fun _ => rfl⟩
theorem sconv_sound (hr : RH X) {s d : TypeId} {a v : SV} {x : AV} {sh' : SH} (ha : RV X a x) (h : sconv P s d a X.sh = some (true, v, sh')) : ∃ y h', mconv P s d x X.h = some (y, h') ∧ ∃ Y, Stp X Y ∧ Y.sh = sh' ∧ Y.h = h' ∧ RV Y v y := by
  unfold sconv at h
  split at h
  · rename_i k n hs hd
    cases h; cases (show x = _ from ha)
    exact ⟨.int .u8 (IntKind.u8.wrap n), _, by simp only [mconv, hs, hd], X, .refl hr, rfl, rfl, congrArg (AV.int .u8) (wrap_u8of n)⟩
  · rename_i b hs hd
    cases h; cases (show x = _ from ha)
    exact ⟨.int .u8 (IntKind.u8.wrap (b.toNat : Int)), _, by simp only [mconv, hs, hd], X, .refl hr, rfl, rfl, congrArg (AV.int .u8) (u8wrap b)⟩
  · rename_i hs hd
    cases h; cases (show x = _ from ha)
    exact ⟨_, _, by simp only [mconv, hs, hd], X, .refl hr, rfl, rfl, rfl⟩
  · rename_i hs hd
    cases h; cases (show x = _ from ha)
    exact ⟨_, _, by simp only [mconv, hs, hd], X, .refl hr, rfl, rfl, rfl⟩
  · rename_i hs hd
    cases h; cases (show x = _ from ha)
    exact ⟨_, _, by simp only [mconv, hs, hd], X, .refl hr, rfl, rfl, rfl⟩
  · rename_i el l hs hd
    split at h
    · rename_i he
      simp only [Option.some.injEq, Prod.mk.injEq] at h; obtain ⟨hl, rfl, rfl⟩ := h
      cases (show x = _ from ha)
      obtain ⟨Y, h1, h2, h3, h4⟩ := push_row hr (u := .u8) (l := l) (cells := l.map byteAV) (tt := none) (.ofBytes l)
      refine ⟨_, _, ?_, Y, h1, h2, h3, h4⟩
      simp only [mconv, hs, hd, he]
      rw [if_pos (show l.length < 549755813888 from blt_iff hl)]; rfl
    · cases h
  · rename_i el hs hd
    split at h
    · rename_i he
      split at h
      · rename_i l hl
        cases h
        refine ⟨.str l, X.h, ?_, X, .refl hr, rfl, rfl, rfl⟩
        rcases reads_sound hr ha hl with ⟨rfl, rfl⟩ | ⟨m', off, ver, clip, cs, rfl, q1, q2⟩
        · simp only [mconv, hs, hd, he]
        · simp only [U.sz, Nat.mul_one] at q1
          simp only [mconv, hs, hd, he, U.sz, q1, q2.bytes, toBytes_map]
      · cases h
    · cases h
  · cases h
theorem convert_sound (hr : RH X) (he : EvR X e m) {s d : TypeId} {x : Operand} {a v : SV} {sh' : SH} (hx : e x = some a) (h : sconv P s d a X.sh = some (true, v, sh')) : ∃ rs, mop P m X.h (.convert s d x) = some rs ∧ SRR X (.val v sh') rs := by
  obtain ⟨p, h1, h2⟩ := he _ _ hx
  obtain ⟨y, h', h3, Y, h4, h5, h6, h7⟩ := sconv_sound hr h2 h
  exact ⟨.val y h', by simp only [mop, h1, h3, rvh], Y, h4, h5, h6, h7⟩
def sassert (P : Program) (t : TypeId) (v : SV) : Option SV := match isIface P t, v with
  | false, .ifc t' v => match Nat.beq t' t with
    | true => some (.tup [v, .a (.bool true)])
    | false => match szero P t with
      | some z => some (.tup [z, .a (.bool false)])
      | none => none
  | false, .a .nili => match szero P t with
    | some z => some (.tup [z, .a (.bool false)])
    | none => none
  | _, _ => none
theorem assert_sound (hr : RH X) (he : EvR X e m) {x : Operand} {t t0 : TypeId} {a v : SV} (hx : e x = some a) (h : sassert P t a = some v) : ∃ rs, mop P m X.h (.typeAssert x t0 t true) = some rs ∧ SRR X (.val v X.sh) rs := by
  obtain ⟨p, h1, h2⟩ := he _ _ hx
  unfold sassert at h
  have hif : isIface P t = false → ∃ d, P.underlying t = some d ∧ ∀ ms, d ≠ .interface ms := fun hi => by
    unfold isIface at hi
    split at hi
    · cases hi
    · cases hi
    · rename_i h3 h4
      cases hu : P.underlying t with
      | none => exact absurd hu h4
      | some d => exact ⟨d, rfl, fun ms e => h3 ms (e ▸ hu)⟩
  split at h
  · rename_i t' w hi
    obtain ⟨d, hu, hd⟩ := hif hi
    obtain ⟨y, rfl, h3⟩ := h2
    split at h
    · rename_i ht
      have ht := Nat_beq ht
      cases h
      refine ⟨.val (.tup [y, .bool true]) X.h, ?_, .same hr ⟨_, rfl, y, _, rfl, h3, _, _, rfl, rfl, rfl⟩⟩
      simp only [mop, h1, hu]
      cases d <;> first | exact absurd rfl (hd _) | rw [if_pos ht]
    · rename_i ht
      have ht : ¬ t' = t := fun e => by rw [e, Nat.beq_refl] at ht; cases ht
      split at h
      · rename_i z hz
        cases h
        obtain ⟨zx, h4, h5⟩ := szero_sound (X := X) hz
        refine ⟨.val (.tup [zx, .bool false]) X.h, ?_, .same hr ⟨_, rfl, zx, _, rfl, h5, _, _, rfl, rfl, rfl⟩⟩
        simp only [mop, h1, hu]
        cases d <;> first | exact absurd rfl (hd _) | rw [if_neg ht, h4]
      · cases h
  · rename_i hi
    obtain ⟨d, hu, hd⟩ := hif hi
    cases (show p = _ from h2)
    split at h
    · rename_i z hz
      cases h
      obtain ⟨zx, h4, h5⟩ := szero_sound (X := X) hz
      refine ⟨.val (.tup [zx, .bool false]) X.h, ?_, .same hr ⟨_, rfl, zx, _, rfl, h5, _, _, rfl, rfl, rfl⟩⟩
      simp only [mop, h1, hu]
      cases d <;> first | exact absurd rfl (hd _) | rw [h4]
    · cases h
  · cases h

/-! Maps. -/
def ssame : TypeDesc → SV → SV → Option Bool
  | .int .u8, .u8 a, .u8 b => some (a == b)
  | .int _, .a (.int k x), .a (.int k' y) => if k = k' then some (x == y) else none
  | .string, .a (.str a), .a (.str b) => some (a == b)
  | .bool, .a (.bool a), .a (.bool b) => some (a == b)
  | _, _, _ => none
theorem ssame_sound {d : TypeDesc} {a b : SV} {x y : AV} {r : Bool} (ha : RV X a x) (hb : RV X b y) (h : ssame d a b = some r) : msame d x y = some r := by
  unfold ssame at h
  split at h
  · cases h; cases (show x = _ from ha); cases (show y = _ from hb); simp only [msame, if_true, u8c]
  · cases (show x = _ from ha); cases (show y = _ from hb); exact h
  · cases (show x = _ from ha); cases (show y = _ from hb); exact h
  · cases (show x = _ from ha); cases (show y = _ from hb); exact h
  · cases h
def skeyOk : TypeDesc → SV → Bool
  | .int .u8, .u8 _ => true
  | .int k, .a (.int k' _) => k' == k
  | .string, .a (.str _) => true
  | .bool, .a (.bool _) => true
  | _, _ => false
theorem skeyOk_sound {d : TypeDesc} {a : SV} {x : AV} (ha : RV X a x) (h : skeyOk d a = true) : keyOk d x = true := by
  unfold skeyOk at h
  split at h
  · cases (show x = _ from ha); rfl
  · cases (show x = _ from ha); exact h
  · cases (show x = _ from ha); rfl
  · cases (show x = _ from ha); rfl
  · cases h
/-- Where a key is: one way for each entry, one for none. -/
def sways (d : TypeDesc) (k : SV) : List SV → List SV → Nat → Option (List (Bool × Option (Nat × SV)))
  | [], [], _ => some [(true, none)]
  | k' :: ks, v :: vs, i => match ssame d k k', sways d k ks vs (i + 1) with
    | some b, some r => some ((b, some (i, v)) :: r)
    | _, _ => none
  | _, _, _ => none
def wayA (F : Option (Nat × SV) → SR) (w : Bool × Option (Nat × SV)) : Bool × SR := (w.1, F w.2)
theorem sways_sound {d : TypeDesc} {k : SV} {x : AV} {F : Option (Nat × SV) → SR} {q : SR} (hk : RV X k x) : ∀ {ks vs : List SV} {es : List (AV × AV)} {i : Nat} {ws : List (Bool × Option (Nat × SV))}, RVs X ks (es.map (·.1)) → RVs X vs (es.map (·.2)) → sways d k ks vs i = some ws → Hit (ws.map (wayA F)) q →
    (q = F none ∧ mfind d x es i = some none) ∨ ∃ j v y, q = F (some (j, v)) ∧ mfind d x es i = some (some (j, y)) ∧ RV X v y
  | [], vs, es, i, ws, h1, h2, h, hh => by
    cases vs with
    | nil =>
      cases h
      rcases hh with ⟨_, rfl⟩ | ⟨hf, _⟩
      · refine .inl ⟨rfl, ?_⟩
        have : es = [] := by simpa using (show es.map (·.1) = [] from h1)
        subst this; rfl
      · cases hf
    | cons v vs => cases h
  | k' :: ks, vs, es, i, ws, h1, h2, h, hh => by
    cases vs with
    | nil => cases h
    | cons v vs =>
      simp only [sways] at h
      split at h
      · rename_i b r hb hr
        cases h
        obtain ⟨x1, t1, e1, q1, q2⟩ := h1
        obtain ⟨x2, t2, e2, q3, q4⟩ := h2
        cases es with
        | nil => simp at e1
        | cons p es =>
          simp only [List.map_cons, List.cons.injEq] at e1 e2
          obtain ⟨rfl, rfl⟩ := e1
          obtain ⟨rfl, rfl⟩ := e2
          have hm := ssame_sound hk q1 hb
          rcases hh with ⟨hb', rfl⟩ | ⟨hb', hh⟩
          · refine .inr ⟨i, v, p.2, rfl, ?_, q3⟩
            simp only [mfind, hm]
            simp only [wayA] at hb'
            rw [hb']
          · rcases sways_sound hk q2 q4 hr hh with ⟨e3, e4⟩ | ⟨j, v', y, e3, e4, e5⟩
            · refine .inl ⟨e3, ?_⟩
              simp only [mfind, hm]
              simp only [wayA] at hb'
              rw [hb']; exact e4
            · refine .inr ⟨j, v', y, e3, ?_, e5⟩
              simp only [mfind, hm]
              simp only [wayA] at hb'
              rw [hb']; exact e4
      · cases h
def sentries (v : SV) (h : SH) : Option (List SV × List SV) := match v with
  | .a .nilm => some ([], [])
  | .map loc => match h[loc]? with
    | some (.map ks vs _) => some (ks, vs)
    | _ => none
  | .imap ks vs => some (ks, vs)
  | _ => none
theorem sentries_sound (hr : RH X) {v : SV} {x : AV} {ks vs : List SV} (hv : RV X v x) (h : sentries v X.sh = some (ks, vs)) : ∃ es, mentries x X.h = some es ∧ RVs X ks (es.map (·.1)) ∧ RVs X vs (es.map (·.2)) := by
  unfold sentries at h
  split at h
  · cases h; cases (show x = _ from hv); exact ⟨[], rfl, rfl, rfl⟩
  · split at h
    · rename_i ks' vs' md hb
      cases h
      obtain ⟨m, ⟨ver, hσ⟩, rfl⟩ := hv
      obtain ⟨m', es, e1, h1, h2, h3⟩ := hr.blk _ _ _ hb hσ
      cases e1
      exact ⟨es, by simp only [mentries, h1], h2, h3⟩
    · cases h
  · cases h
    obtain ⟨m, es, rfl, _, h1, h2, h3⟩ := hv
    exact ⟨es, by simp only [mentries, h1], h2, h3⟩
  · cases h
def lkRes (ok : Bool) (z : SV) (h : SH) : Option (Nat × SV) → SR
  | some (_, v) => match ok with | true => .val (.tup [v, .a (.bool true)]) h | false => .val v h
  | none => match ok with | true => .val (.tup [z, .a (.bool false)]) h | false => .val z h
def slookup0 (P : Program) (t : TypeId) (mv k : SV) (ok : Bool) (h : SH) : Alts :=
  match P.underlying t with
  | some (.map kt et) => match P.underlying kt, szero P et, sentries mv h with
    | some d, some z, some (ks, vs) => match skeyOk d k, sways d k ks vs 0 with
      | true, some ws => ws.map (wayA (lkRes ok z h))
      | _, _ => []
    | _, _, _ => []
  | _ => []
theorem lookup0_sound (hr : RH X) (he : EvR X e m) {t : TypeId} {om ok' : Operand} {ok : Bool} {mv k : SV} {q : SR} (hm : e om = some mv) (hk : e ok' = some k) (h : Hit (slookup0 P t mv k ok X.sh) q) : ∃ rs, mop P m X.h (.lookup t om ok' ok) = some rs ∧ SRR X q rs := by
  obtain ⟨xm, h1, h2⟩ := he _ _ hm
  obtain ⟨xk, h3, h4⟩ := he _ _ hk
  suffices hs : ∃ y v, q = .val v X.sh ∧ mlookup P t xm xk ok X.h = some y ∧ RV X v y by
    obtain ⟨y, v, rfl, h5, h6⟩ := hs
    exact ⟨_, by simp only [mop, h1, h3, h5, rv], .same hr h6⟩
  unfold slookup0 at h
  split at h
  · rename_i kt et hu
    split at h
    · rename_i d z ks vs hd hz hes
      split at h
      · rename_i ws hko hw
        obtain ⟨zx, h5, h6⟩ := szero_sound (X := X) hz
        obtain ⟨es, h7, h8, h9⟩ := sentries_sound hr h2 hes
        have hko := skeyOk_sound h4 hko
        rcases sways_sound h4 h8 h9 hw h with ⟨rfl, h10⟩ | ⟨j, v, y, rfl, h10, h11⟩
        · cases ok with
          | true => exact ⟨_, _, rfl, by simp only [mlookup, hu, hd, h5, h7, if_pos hko, h10]; rfl, _, rfl, zx, _, rfl, h6, _, _, rfl, rfl, rfl⟩
          | false => exact ⟨_, _, rfl, by simp only [mlookup, hu, hd, h5, h7, if_pos hko, h10]; rfl, h6⟩
        · cases ok with
          | true => exact ⟨_, _, rfl, by simp only [mlookup, hu, hd, h5, h7, if_pos hko, h10]; rfl, _, rfl, y, _, rfl, h11, _, _, rfl, rfl, rfl⟩
          | false => exact ⟨_, _, rfl, by simp only [mlookup, hu, hd, h5, h7, if_pos hko, h10]; rfl, h11⟩
      · cases h
    · cases h
  · cases h
/-! Maps whose entries are not told apart. -/
def isAggV (u : U) (v : SV) : Bool := match v with
  | .agg _ => u.agg
  | _ => !u.agg
def unF : (u : U) → List SV → Option (El u × List SV)
  | .bool, .a (.bool b) :: r => some (b, r)
  | .int k, .a (.int k' n) :: r => match decide (k = k') with
    | true => some (n, r)
    | false => none
  | .u8, .u8 b :: r => some (b, r)
  | .str, .a (.str l) :: r => some (l, r)
  | .sl u, .isl u' l :: r => match castU u' u l with
    | some l => some (l, r)
    | none => none
  | .pair u v, vs => match unF u vs with
    | some (x, r) => match unF v r with
      | some (y, r') => some ((x, y), r')
      | none => none
    | none => none
  | .unit, r => some ((), r)
  | _, _ => none
theorem unF_eq : ∀ (u : U) {vs r : List SV} {x : El u}, unF u vs = some (x, r) → vs = enc u x ++ r
  | .bool, vs, r, x, h => by
    match vs, h with
    | .a (.bool b) :: r', h => cases h; rfl
  | .int k, vs, r, x, h => by
    match vs, h with
    | .a (.int k' n) :: r', h =>
      simp only [unF] at h
      split at h
      · rename_i hk
        have hk := of_decide_eq_true hk
        subst hk
        cases h; rfl
      · cases h
  | .u8, vs, r, x, h => by
    match vs, h with
    | .u8 b :: r', h => cases h; rfl
  | .str, vs, r, x, h => by
    match vs, h with
    | .a (.str l) :: r', h => cases h; rfl
  | .sl u, vs, r, x, h => by
    match vs, h with
    | .isl u' l :: r', h =>
      simp only [unF] at h
      split at h
      · rename_i l2 hc
        obtain ⟨e1, e2⟩ := castU_eq hc
        subst e1; cases e2; cases h; rfl
      · cases h
  | .pair u v, vs, r, x, h => by
    simp only [unF] at h
    split at h
    · rename_i y r1 h1
      split at h
      · rename_i z r2 h2
        cases h
        rw [unF_eq u h1, unF_eq v h2]
        exact (List.append_assoc _ _ _).symm
      · cases h
    · cases h
  | .unit, vs, r, x, h => by cases h; rfl
def asEl (u : U) (v : SV) : Option (El u) := match isAggV u v, unF u v.cells with
  | true, some (x, []) => some x
  | _, _ => none
theorem asEl_eq {u : U} {v : SV} {x : El u} (h : asEl u v = some x) : valS u x = v := by
  unfold asEl at h
  split at h
  · rename_i ha hu
    cases h
    have := unF_eq u hu
    rw [List.append_nil] at this
    cases u with
    | pair a b =>
      cases v <;> first | (simp [isAggV, U.agg] at ha; done) | skip
      exact congrArg SV.agg this.symm
    | unit =>
      cases v <;> first | (simp [isAggV, U.agg] at ha; done) | skip
      exact congrArg SV.agg this.symm
    | bool => cases v <;> first | (simp [isAggV, U.agg] at ha; done) | (simp [SV.cells, enc] at this <;> first | (subst this; rfl) | rfl)
    | int k => cases v <;> first | (simp [isAggV, U.agg] at ha; done) | (simp [SV.cells, enc] at this <;> first | (subst this; rfl) | rfl)
    | u8 => cases v <;> first | (simp [isAggV, U.agg] at ha; done) | (simp [SV.cells, enc] at this <;> first | (subst this; rfl) | rfl)
    | str => cases v <;> first | (simp [isAggV, U.agg] at ha; done) | (simp [SV.cells, enc] at this <;> first | (subst this; rfl) | rfl)
    | sl a => cases v <;> first | (simp [isAggV, U.agg] at ha; done) | (simp [SV.cells, enc] at this <;> (obtain ⟨rfl, this⟩ := this; cases this; rfl))
  · cases h
def kuOk (d : TypeDesc) (u : U) : Bool := match d, u with
  | .int .u8, .u8 => true
  | .int k, .int k' => k' == k
  | .string, .str => true
  | .bool, .bool => true
  | _, _ => false
def sameK : (u : U) → El u → El u → Bool
  | .bool, (a : Bool), b => a == b
  | .int _, (a : Int), b => a == b
  | .u8, (a : UInt8), b => a == b
  | .str, (a : List UInt8), b => a == b
  | _, _, _ => false
def kvFind (u v : U) : List (El u × El v) → El u → Option (El v)
  | [], _ => none
  | p :: l, k => cond (sameK u k p.1) (some p.2) (kvFind u v l k)
def kvPut (u v : U) : List (El u × El v) → El u → El v → List (El u × El v)
  | [], k, x => [(k, x)]
  | p :: l, k, x => cond (sameK u k p.1) ((k, x) :: l) (p :: kvPut u v l k x)
def kvDel (u v : U) : List (El u × El v) → El u → List (El u × El v)
  | [], _ => []
  | p :: l, k => cond (sameK u k p.1) l (p :: kvDel u v l k)
theorem kuOk_key {d : TypeDesc} {u : U} {k : El u} {x : AV} (h : kuOk d u = true) (q : RV X (valS u k) x) : keyOk d x = true := by
  unfold kuOk at h
  split at h
  · cases (show x = _ from q); rfl
  · cases (show x = _ from q); exact h
  · cases (show x = _ from q); rfl
  · cases (show x = _ from q); rfl
  · cases h
theorem msame_kv {d : TypeDesc} {u : U} {k k' : El u} {x y : AV} (h : kuOk d u = true) (h1 : RV X (valS u k) x) (h2 : RV X (valS u k') y) : msame d x y = some (sameK u k k') := by
  unfold kuOk at h
  split at h
  · cases (show x = _ from h1); cases (show y = _ from h2); simp only [msame, if_true, u8c]; rfl
  · cases (show x = _ from h1); cases (show y = _ from h2); simp only [msame, if_true]; rfl
  · cases (show x = _ from h1); cases (show y = _ from h2); rfl
  · cases (show x = _ from h1); cases (show y = _ from h2); rfl
  · cases h
theorem mfind_kv {d : TypeDesc} {u v : U} {k : El u} {x : AV} (hd : kuOk d u = true) (hk : RV X (valS u k) x) (w : El v) : ∀ (l : List (El u × El v)) (es : List (AV × AV)) (i : Nat), RVs X (kvK u v l) (es.map (·.1)) → RVs X (kvV u v l) (es.map (·.2)) →
    (kvFind u v l k = none ∧ mfind d x es i = some none ∧ kvPut u v l k w = l ++ [(k, w)] ∧ kvDel u v l k = l) ∨
    ∃ j z y, kvFind u v l k = some z ∧ mfind d x es i = some (some (i + j, y)) ∧ RV X (valS v z) y ∧ kvPut u v l k w = l.set j (k, w) ∧ kvDel u v l k = l.eraseIdx j
  | [], es, i, h1, h2 => by
    have : es = [] := by simpa using (show es.map (·.1) = [] from h1)
    subst this
    exact .inl ⟨rfl, rfl, rfl, rfl⟩
  | p :: l, es, i, h1, h2 => by
    obtain ⟨x1, t1, e1, q1, q2⟩ := h1
    obtain ⟨x2, t2, e2, q3, q4⟩ := h2
    cases es with
    | nil => simp at e1
    | cons e es =>
      simp only [List.map_cons, List.cons.injEq] at e1 e2
      obtain ⟨rfl, rfl⟩ := e1
      obtain ⟨rfl, rfl⟩ := e2
      have hm := msame_kv hd hk q1
      cases hs : sameK u k p.1 with
      | true =>
        rw [hs] at hm
        refine .inr ⟨0, p.2, e.2, ?_, ?_, q3, ?_, ?_⟩
        · simp only [kvFind, hs, cond_true]
        · simp only [mfind, hm]; rfl
        · simp only [kvPut, hs, cond_true, List.set_cons_zero]
        · simp only [kvDel, hs, cond_true, List.eraseIdx_cons_zero]
      | false =>
        rw [hs] at hm
        rcases mfind_kv hd hk w l es (i + 1) q2 q4 with ⟨a1, a2, a3, a4⟩ | ⟨j, z, y, a1, a2, a3, a4, a5⟩
        · refine .inl ⟨?_, ?_, ?_, ?_⟩
          · simp only [kvFind, hs, cond_false, a1]
          · simp only [mfind, hm, a2]
          · simp only [kvPut, hs, cond_false, a3, List.cons_append]
          · simp only [kvDel, hs, cond_false, a4]
        · refine .inr ⟨j + 1, z, y, ?_, ?_, a3, ?_, ?_⟩
          · simp only [kvFind, hs, cond_false, a1]
          · simp only [mfind, hm, a2, show i + 1 + j = i + (j + 1) by omega]
          · simp only [kvPut, hs, cond_false, a4, List.set_cons_succ]
          · simp only [kvDel, hs, cond_false, a5, List.eraseIdx_cons_succ]
theorem turn_kv (hr : RH X) {loc : Nat} {u v : U} {l l' : List (El u × El v)} {es' : List (AV × AV)} {mm : Nat} (hb : X.sh[loc]? = some (.kv u v l 0)) (hσ : X.σ[loc]? = some (some (mm, 0))) (h1 : RVs X (kvK u v l') (es'.map (·.1))) (h2 : RVs X (kvV u v l') (es'.map (·.2))) :
    ∃ Y, Stp X Y ∧ Y.sh = X.sh.set loc (.kv u v l' 0) ∧ Y.h = X.h.set mm (.map es') := by
  have hlt := hr.lt _ _ _ hσ
  refine ⟨⟨X.h.set mm (.map es'), X.Φ, X.σ, X.sh.set loc (.kv u v l' 0)⟩, ?_, rfl, rfl⟩
  refine Stp.turn hr hb hσ (by simp) (fun m' hm' hne => Arr.get_set_ne fun e => hne 0 (e ▸ rfl)) (fun _ _ _ => .inr rfl) (by show _ ≤ (X.h.set _ _).length; rw [Arr.length_set]; exact Nat.le_refl _)
    (fun m => ⟨.inl, fun h => h.elim id fun h => by cases h.1⟩) (set_ext hσ).symm rfl (fun m' v' e => by cases e; exact ⟨by show _ < (X.h.set _ _).length; rw [Arr.length_set]; exact hlt, .inl ⟨_, rfl⟩⟩) (fun m v e => ⟨v, e⟩) (fun _ _ _ _ e => by cases e)
    (fun h => h) (fun h => h.elim (fun h => by cases h) fun h => by cases h) fun hle' => ?_
  exact ⟨mm, es', rfl, Arr.get_set_self hlt, h1.le hle', h2.le hle'⟩
def kvLookup (P : Program) (t : TypeId) (u v : U) (l : List (El u × El v)) (k : SV) (ok : Bool) : Option SV := match P.underlying t with
  | some (.map kt et) => match P.underlying kt, szero P et, asEl u k with
    | some d, some z, some k => match kuOk d u, asEl v z with
      | true, some z => match ok with
        | true => some (.tup [valS v ((kvFind u v l k).getD z), .a (.bool (kvFind u v l k).isSome)])
        | false => some (valS v ((kvFind u v l k).getD z))
      | _, _ => none
    | _, _, _ => none
  | _ => none
def isKv (mv : SV) (h : SH) : Option SB := match mv with
  | .map loc => match h[loc]? with
    | some (.kv u v l md) => some (.kv u v l md)
    | _ => none
  | _ => none
theorem isKv_eq {mv : SV} {h : SH} {b : SB} (e : isKv mv h = some b) : ∃ loc, mv = .map loc ∧ h[loc]? = some b := by
  unfold isKv at e
  split at e
  · split at e
    · rename_i h1; cases e; exact ⟨_, rfl, h1⟩
    · cases e
  · cases e
theorem kvLookup_sound (hr : RH X) {t : TypeId} {u v : U} {l : List (El u × El v)} {k r : SV} {xk : AV} {ok : Bool} {loc md : Nat} {xm : AV} (hb : X.sh[loc]? = some (.kv u v l md)) (hm : RV X (.map loc) xm) (hk : RV X k xk) (h : kvLookup P t u v l k ok = some r) : ∃ y, mlookup P t xm xk ok X.h = some y ∧ RV X r y := by
  obtain ⟨m, ⟨ver, hσ⟩, rfl⟩ := hm
  obtain ⟨m', es, e1, h1, h2, h3⟩ := hr.blk _ _ _ hb hσ
  cases e1
  unfold kvLookup at h
  split at h
  · rename_i kt et hu
    split at h
    · rename_i d z k' hd hz hk'
      split at h
      · rename_i z' hko hz'
        have hk2 := asEl_eq hk'
        have hz2 := asEl_eq hz'
        subst hk2
        obtain ⟨zx, h5, h6⟩ := szero_sound (X := X) hz
        rw [← hz2] at h6
        have hkk := kuOk_key hko hk
        have he : mentries (.map m) X.h = some es := by simp only [mentries, h1]
        rcases mfind_kv hko hk z' l es 0 h2 h3 with ⟨a1, a2, _⟩ | ⟨j, w, y, a1, a2, a3, _⟩
        · split at h
          · cases h
            exact ⟨.tup [zx, .bool false], by simp only [mlookup, hu, hd, h5, he, if_pos hkk, a2]; rfl, _, rfl, zx, _, rfl, by rw [a1]; exact h6, _, _, rfl, by rw [a1]; rfl, rfl⟩
          · cases h
            exact ⟨_, by simp only [mlookup, hu, hd, h5, he, if_pos hkk, a2]; rfl, by rw [a1]; exact h6⟩
        · split at h
          · cases h
            exact ⟨.tup [y, .bool true], by simp only [mlookup, hu, hd, h5, he, if_pos hkk, a2]; rfl, _, rfl, y, _, rfl, by rw [a1]; exact a3, _, _, rfl, by rw [a1]; rfl, rfl⟩
          · cases h
            exact ⟨_, by simp only [mlookup, hu, hd, h5, he, if_pos hkk, a2]; rfl, by rw [a1]; exact a3⟩
      · cases h
    · cases h
  · cases h
def kvStore (P : Program) (t : TypeId) (loc : Nat) (b : SB) (k v : SV) (h : SH) : Option SH := match b with
  | .kv uk uv l 0 => match P.underlying t with
    | some (.map kt _) => match P.underlying kt, asEl uk k, asEl uv v with
      | some d, some k, some x => match kuOk d uk with
        | true => some (h.set loc (.kv uk uv (kvPut uk uv l k x) 0))
        | false => none
      | _, _, _ => none
    | _ => none
  | _ => none
theorem kvStore_sound (hr : RH X) {t : TypeId} {b : SB} {k v : SV} {xm xk xv : AV} {loc : Nat} {h' : SH} (hb : X.sh[loc]? = some b) (hm : RV X (.map loc) xm) (hk : RV X k xk) (hv : RV X v xv) (h : kvStore P t loc b k v X.sh = some h') : ∃ mh, mput P t xm xk xv X.h = some mh ∧ ∃ Y, Stp X Y ∧ Y.sh = h' ∧ Y.h = mh := by
  unfold kvStore at h
  split at h
  · rename_i uk uv l
    obtain ⟨m, ⟨ver, hσ⟩, rfl⟩ := hm
    obtain ⟨m', es, e1, h1, h2, h3⟩ := hr.blk _ _ _ hb hσ
    cases e1
    split at h
    · rename_i kt et hu
      split at h
      · rename_i d k' x' hd hk' hx'
        split at h
        · rename_i hko
          cases h
          have e1 := asEl_eq hk'
          have e2 := asEl_eq hx'
          subst e1; subst e2
          have hkk := kuOk_key hko hk
          rcases mfind_kv hko hk x' l es 0 h2 h3 with ⟨a1, a2, a3, _⟩ | ⟨j, w, y, a1, a2, a3, a4, _⟩
          · obtain ⟨Y, q1, q2, q3⟩ := turn_kv (l' := l ++ [(k', x')]) (es' := es ++ [(xk, xv)]) hr hb hσ (by simp only [kvK, List.map_append] at h2 ⊢; exact h2.append (.one hk)) (by simp only [kvV, List.map_append] at h3 ⊢; exact h3.append (.one hv))
            exact ⟨_, by simp only [mput, hu, hd, h1, if_pos hkk, a2], Y, q1, by rw [q2, a3], q3⟩
          · obtain ⟨Y, q1, q2, q3⟩ := turn_kv (l' := l.set j (k', x')) (es' := es.set j (xk, xv)) hr hb hσ (by simp only [kvK, List.map_set] at h2 ⊢; exact h2.set j hk) (by simp only [kvV, List.map_set] at h3 ⊢; exact h3.set j hv)
            exact ⟨_, by simp only [mput, hu, hd, h1, if_pos hkk, a2, Nat.zero_add], Y, q1, by rw [q2, a4], q3⟩
        · cases h
      · cases h
    · cases h
  · cases h
theorem RVs.eraseIdx {l : List SV} {xs : List AV} (q : RVs X l xs) (i : Nat) : RVs X (l.eraseIdx i) (xs.eraseIdx i) := by
  induction l generalizing xs i with
  | nil => cases q; exact rfl
  | cons v l ih => obtain ⟨x, t, rfl, h1, h2⟩ := q; cases i with
    | zero => exact h2
    | succ i => exact ⟨x, t.eraseIdx i, rfl, h1, ih h2 i⟩
def kvDelete (P : Program) (t : TypeId) (m k : SV) (h : SH) : Option SH := match m, isKv m h with
  | .map loc, some (.kv uk uv l 0) => match P.underlying t with
    | some (.map kt _) => match P.underlying kt, asEl uk k with
      | some d, some k => match kuOk d uk with
        | true => some (h.set loc (.kv uk uv (kvDel uk uv l k) 0))
        | false => none
      | _, _ => none
    | _ => none
  | _, _ => none
theorem map_eraseIdx {α β : Type} (f : α → β) : ∀ (l : List α) (i : Nat), (l.eraseIdx i).map f = (l.map f).eraseIdx i
  | [], _ => rfl
  | _ :: _, 0 => rfl
  | a :: l, i + 1 => by simp [map_eraseIdx f l i]
theorem kvDelete_sound (hr : RH X) {t : TypeId} {m k : SV} {xm xk : AV} {h' : SH} (hm : RV X m xm) (hk : RV X k xk) (h : kvDelete P t m k X.sh = some h') : ∃ mh, mdelete P t xm xk X.h = some mh ∧ ∃ Y, Stp X Y ∧ Y.sh = h' ∧ Y.h = mh := by
  unfold kvDelete at h
  split at h
  · rename_i loc uk uv l hkv
    obtain ⟨loc', e0, hb⟩ := isKv_eq hkv
    cases e0
    obtain ⟨m, ⟨ver, hσ⟩, rfl⟩ := hm
    obtain ⟨m', es, e1, h1, h2, h3⟩ := hr.blk _ _ _ hb hσ
    cases e1
    split at h
    · rename_i kt et hu
      split at h
      · rename_i d k' hd hk'
        split at h
        · rename_i hko
          cases h
          have e1 := asEl_eq hk'
          subst e1
          have hkk := kuOk_key hko hk
          rcases mfind_kv hko hk (w := uv.zero) l es 0 h2 h3 with ⟨a1, a2, _, a3⟩ | ⟨j, w, y, a1, a2, a3, _, a4⟩
          · obtain ⟨Y, q1, q2, q3⟩ := turn_kv (l' := l) (es' := es) hr hb hσ h2 h3
            exact ⟨_, by simp only [mdelete, hu, hd, h1, if_pos hkk, a2], Y, q1, by rw [q2, a3], q3⟩
          · obtain ⟨Y, q1, q2, q3⟩ := turn_kv (l' := l.eraseIdx j) (es' := es.eraseIdx j) hr hb hσ (by simp only [kvK, map_eraseIdx] at h2 ⊢; exact h2.eraseIdx j) (by simp only [kvV, map_eraseIdx] at h3 ⊢; exact h3.eraseIdx j)
            exact ⟨_, by simp only [mdelete, hu, hd, h1, if_pos hkk, a2, Nat.zero_add], Y, q1, by rw [q2, a4], q3⟩
        · cases h
      · cases h
    · cases h
  · cases h
def putRes (loc : Nat) (ks vs : List SV) (k v : SV) (h : SH) : Option (Nat × SV) → SR
  | some (i, _) => .unit (h.set loc (.map (ks.set i k) (vs.set i v) 0))
  | none => .unit (h.set loc (.map (ks ++ [k]) (vs ++ [v]) 0))
def sput0 (P : Program) (t : TypeId) (mv k v : SV) (h : SH) : Alts :=
  match P.underlying t, mv with
  | some (.map kt _), .map loc => match P.underlying kt, h[loc]? with
    | some d, some (.map ks vs 0) => match skeyOk d k, sways d k ks vs 0 with
      | true, some ws => ws.map (wayA (putRes loc ks vs k v h))
      | _, _ => []
    | _, _ => []
  | _, _ => []
theorem turn_map (hr : RH X) {loc : Nat} {ks vs ks' vs' : List SV} {es' : List (AV × AV)} {mm : Nat} (hb : X.sh[loc]? = some (.map ks vs 0)) (hσ : X.σ[loc]? = some (some (mm, 0))) (h1 : RVs X ks' (es'.map (·.1))) (h2 : RVs X vs' (es'.map (·.2))) :
    ∃ Y, Stp X Y ∧ Y.sh = X.sh.set loc (.map ks' vs' 0) ∧ Y.h = X.h.set mm (.map es') := by
  have hlt := hr.lt _ _ _ hσ
  refine ⟨⟨X.h.set mm (.map es'), X.Φ, X.σ, X.sh.set loc (.map ks' vs' 0)⟩, ?_, rfl, rfl⟩
  refine Stp.turn hr hb hσ (by simp) (fun m' hm' hne => Arr.get_set_ne fun e => hne 0 (e ▸ rfl)) (fun _ _ _ => .inr rfl) (by show _ ≤ (X.h.set _ _).length; rw [Arr.length_set]; exact Nat.le_refl _)
    (fun m => ⟨.inl, fun h => h.elim id fun h => by cases h.1⟩) (set_ext hσ).symm rfl (fun m' v' e => by cases e; exact ⟨by show _ < (X.h.set _ _).length; rw [Arr.length_set]; exact hlt, .inl ⟨_, rfl⟩⟩) (fun m v e => ⟨v, e⟩) (fun _ _ _ _ e => by cases e)
    (fun h => h) (fun h => h.elim (fun h => by cases h) fun h => by cases h) fun hle' => ?_
  exact ⟨mm, es', rfl, Arr.get_set_self hlt, h1.le hle', h2.le hle'⟩
theorem sput0_sound (hr : RH X) {t : TypeId} {mv k v : SV} {xm xk xv : AV} {q : SR} (h2 : RV X mv xm) (h4 : RV X k xk) (h6 : RV X v xv) (h : Hit (sput0 P t mv k v X.sh) q) : ∃ h' sh', mput P t xm xk xv X.h = some h' ∧ q = .unit sh' ∧ ∃ Y, Stp X Y ∧ Y.sh = sh' ∧ Y.h = h' := by
  unfold sput0 at h
  split at h
  · rename_i kt et loc hu
    split at h
    · rename_i d ks vs hd hb
      split at h
      · rename_i ws hko hw
        obtain ⟨mm, ⟨ver, hσ⟩, rfl⟩ := h2
        obtain ⟨m', es, e1, h7, h8, h9⟩ := hr.blk _ _ _ hb hσ
        cases e1
        have hko := skeyOk_sound h4 hko
        rcases sways_sound h4 h8 h9 hw h with ⟨rfl, h10⟩ | ⟨j, v', y, rfl, h10, h11⟩
        · obtain ⟨Y, h12, h13, h14⟩ := turn_map (es' := es ++ [(xk, xv)]) hr hb hσ (ks' := ks ++ [k]) (vs' := vs ++ [v]) (by rw [List.map_append]; exact h8.append (.one h4)) (by rw [List.map_append]; exact h9.append (.one h6))
          exact ⟨_, _, by simp only [mput, hu, hd, h7, if_pos hko, h10], rfl, Y, h12, h13, h14⟩
        · obtain ⟨Y, h12, h13, h14⟩ := turn_map (es' := es.set j (xk, xv)) hr hb hσ (ks' := ks.set j k) (vs' := vs.set j v) (by rw [List.map_set]; exact h8.set j h4) (by rw [List.map_set]; exact h9.set j h6)
          exact ⟨_, _, by simp only [mput, hu, hd, h7, if_pos hko, h10], rfl, Y, h12, h13, h14⟩
      · cases h
    · cases h
  · cases h
def slookup (P : Program) (t : TypeId) (mv k : SV) (ok : Bool) (h : SH) : Alts := match isKv mv h with
  | some (.kv u v l _) => oneO h (kvLookup P t u v l k ok)
  | _ => slookup0 P t mv k ok h
theorem lookup_sound (hr : RH X) (he : EvR X e m) {t : TypeId} {om ok' : Operand} {ok : Bool} {mv k : SV} {q : SR} (hm : e om = some mv) (hk : e ok' = some k) (h : Hit (slookup P t mv k ok X.sh) q) : ∃ rs, mop P m X.h (.lookup t om ok' ok) = some rs ∧ SRR X q rs := by
  unfold slookup at h
  split at h
  · rename_i u v l md hkv
    obtain ⟨loc, rfl, hb⟩ := isKv_eq hkv
    obtain ⟨r, h1, rfl⟩ := hit_O h
    obtain ⟨xm, h2, h3⟩ := he _ _ hm
    obtain ⟨xk, h4, h5⟩ := he _ _ hk
    obtain ⟨y, h6, h7⟩ := kvLookup_sound hr hb h3 h5 h1
    exact ⟨_, by simp only [mop, h2, h4, h6, rv], .same hr h7⟩
  · exact lookup0_sound hr he hm hk h
def sput (P : Program) (t : TypeId) (mv k v : SV) (h : SH) : Alts := match mv, isKv mv h with
  | .map loc, some b => match kvStore P t loc b k v h with
    | some h' => [(true, .unit h')]
    | none => []
  | _, _ => sput0 P t mv k v h
theorem sput_sound (hr : RH X) {t : TypeId} {mv k v : SV} {xm xk xv : AV} {q : SR} (h2 : RV X mv xm) (h4 : RV X k xk) (h6 : RV X v xv) (h : Hit (sput P t mv k v X.sh) q) : ∃ h' sh', mput P t xm xk xv X.h = some h' ∧ q = .unit sh' ∧ ∃ Y, Stp X Y ∧ Y.sh = sh' ∧ Y.h = h' := by
  unfold sput at h
  split at h
  · rename_i loc b hkv
    obtain ⟨loc', e0, hb⟩ := isKv_eq hkv
    cases e0
    split at h
    · rename_i h' hs
      rcases h with ⟨_, rfl⟩ | h
      · obtain ⟨mh, q1, Y, q2, q3, q4⟩ := kvStore_sound hr hb h2 h4 h6 hs
        exact ⟨mh, h', q1, rfl, Y, q2, q3, q4⟩
      · exact absurd h.2 id
    · cases h
  · exact sput0_sound hr h2 h4 h6 h
end
end Go.Sx

/- The symbolic machine S: operations that make memory. -/
set_option linter.unusedVariables false
set_option linter.unusedSimpArgs false
namespace Go.Sx
open Go Go.Gx Go.Mx

def U.zcells : U → List AV
  | .bool => [.bool false]
  | .int k => [.int k 0]
  | .u8 => [.int .u8 0]
  | .str => [.str []]
  | .sl _ => [.nils]
  | .pair a b => a.zcells ++ b.zcells
  | .unit => []
theorem RE.zero {h : Heap} {Φ : Nat → Prop} : ∀ {u : U}, RE h Φ u u.zero u.zcells
  | .bool => rfl
  | .int _ => rfl
  | .u8 => rfl
  | .str => rfl
  | .sl _ => ⟨_, rfl, .inl ⟨rfl, rfl⟩⟩
  | .pair _ _ => ⟨_, _, rfl, RE.zero, RE.zero⟩
  | .unit => rfl
theorem zcells_length {u : U} : u.zcells.length = u.sz := (RE.zero (h := Arr.nil) (Φ := fun _ => False) (u := u)).length
def elOk (P : Program) (e : TypeId) (u : U) : Bool := match P.info? e with
  | some i => match i.zero with
    | some z => match ofConst z with
      | some x => Nat.beq i.size u.sz && Nat.ble i.bytes 256 && Nat.blt 0 i.size && Nat.beq z.cells.size i.size && AV.beqL x.cells u.zcells
      | none => false
    | none => false
  | none => false
structure ElOk (P : Program) (e : TypeId) (u : U) (i : TypeInfo) (z : Value) (x : AV) : Prop where
  info : P.info? e = some i
  zero : i.zero = some z
  zo : zeroOf P e = some x
  size : i.size = u.sz
  bytes : i.bytes ≤ 256
  pos : 0 < u.sz
  zc : z.cells.size = i.size
  xc : x.cells = u.zcells
  sz : szOf P e = some u.sz
theorem elOk_iff {P : Program} {e : TypeId} {u : U} (h : elOk P e u = true) : ∃ i z x, ElOk P e u i z x := by
  unfold elOk at h
  split at h
  · rename_i i hi
    split at h
    · rename_i z hz
      split at h
      · rename_i x hx
        simp only [Bool.and_eq_true] at h
        obtain ⟨⟨⟨⟨h1, h2⟩, h3⟩, h4⟩, h5⟩ := h
        have h1 := Nat_beq h1
        exact ⟨i, z, x, hi, hz, by simp only [zeroOf, hi, hz, hx], h1, Nat.le_of_ble_eq_true h2, by have := blt_iff h3; omega, Nat_beq h4, AV.beqL_eq _ _ h5, by simp only [szOf, hi, h1]⟩
      · cases h
    · cases h
  · cases h
section
variable {P : Program} {gl : GL} {X : Gst} {e : Operand → Option SV} {m : Operand → Option AV}
theorem push_cells (hr : RH X) {l : List SV} {l' : List AV} {tt : Option TypeId} (hc : RVs X l l') : ∃ Y, Stp X Y ∧ Y.sh = X.sh ++ [.cells l 0] ∧ Y.h = X.h ++ [Blk.row l' 0 0 0 false tt] ∧ Y.at X.sh.length X.h.length := by
  refine ⟨_, Stp.push hr (b := .cells l 0) (blk := .row l' 0 0 0 false tt) (by simp [SB.md]) (fun hle => ⟨X.h.length, l', tt, rfl, ?_, hc.le hle⟩), rfl, rfl, 0, ?_⟩
  · show (X.h ++ [_])[X.h.length]? = _
    rw [Arr.get_app_right (Nat.le_refl _), Nat.sub_self]; rfl
  · show (X.σ ++ [_])[X.sh.length]? = _
    rw [← hr.len, List.getElem?_append_right (Nat.le_refl _), Nat.sub_self]; rfl
def sbox (v : SV) (h : SH) : Option (SV × SH) := match v.whole with
  | true => some (.ptr h.length 0 v.cells.length, h ++ [.cells v.cells 0])
  | false => none
theorem sbox_sound (hr : RH X) {v w : SV} {x : AV} {sh' : SH} (t : TypeId) (hv : RV X v x) (h : sbox v X.sh = some (w, sh')) : ∃ Y, Stp X Y ∧ Y.sh = sh' ∧ Y.h = mkRow X.h x.cells t ∧ RV Y w (.ptr X.h.length 0 0 x.cells.length) := by
  unfold sbox at h
  split at h
  · rename_i hw
    cases h
    have hc := hv.wholeC hw
    obtain ⟨Y, h1, h2, h3, h4⟩ := push_cells hr (tt := some t) hc
    exact ⟨Y, h1, h2, h3, X.h.length, h4, by rw [hc.length]⟩
  · cases h
/-- A variable that is a table of plain elements. -/
def allocArr (P : Program) (t : TypeId) (h : SH) : Option (SV × SH) := match P.underlying t with
  | some (.array n e) => match uOf P 6 e, zeroOf P t with
    | some u, some z => match (match u with | .u8 => true | .int _ => true | _ => false) && Nat.ble 8 n && AV.beqL z.cells (mzeros u.zcells (n * u.sz)) with
      | true => some (.aptr h.length 0 n, h ++ [.seq u (List.replicate n u.zero) 0 0])
      | false => none
    | _, _ => none
  | _ => none
def salloc (P : Program) (t : TypeId) (h : SH) : Option (Bool × SV × SH) := match allocArr P t h with
  | some (v, h') => some (true, v, h')
  | none => match szero P t with
    | some z => match sbox z h with
      | some (v, h') => some (true, v, h')
      | none => none
    | none => none
theorem box_sound (hr : RH X) (he : EvR X e m) {t : TypeId} {o : Operand} {a v : SV} {sh' : SH} (ho : e o = some a) (h : sbox a X.sh = some (v, sh')) : ∃ rs, mop P m X.h (.box t o) = some rs ∧ SRR X (.val v sh') rs := by
  obtain ⟨p, h1, h2⟩ := he _ _ ho
  obtain ⟨Y, h5, h6, h7, h8⟩ := sbox_sound hr t h2 h
  exact ⟨.val _ _, by simp only [mop, h1], Y, h5, h6, h7, h8⟩
theorem makeMap_sound (hr : RH X) {t : TypeId} : ∃ rs, mop P m X.h (.makeMap t none) = some rs ∧ SRR X (.val (.map X.sh.length) (X.sh ++ [.map [] [] 0])) rs := by
  refine ⟨.val (.map X.h.length) (X.h ++ [Blk.map []]), rfl, _, Stp.push hr (b := .map [] [] 0) (blk := .map []) (by simp [SB.md]) (fun hle => ⟨X.h.length, [], rfl, ?_, rfl, rfl⟩), rfl, rfl, X.h.length, ⟨0, ?_⟩, rfl⟩
  · show (X.h ++ [_])[X.h.length]? = _
    rw [Arr.get_app_right (Nat.le_refl _), Nat.sub_self]; rfl
  · show (X.σ ++ [_])[X.sh.length]? = _
    rw [← hr.len, List.getElem?_append_right (Nat.le_refl _), Nat.sub_self]; rfl
theorem RCs.zeros {h : Heap} {Φ : Nat → Prop} {u : U} (hp : 0 < u.sz) (k : Nat) : RCs h Φ u (List.replicate k u.zero) (mzeros u.zcells (k * u.sz)) := by
  have hz := zcells_length (u := u)
  refine ⟨by simp [mzeros], fun i e hi => ?_⟩
  rw [List.getElem?_replicate] at hi
  split at hi
  · rename_i hik
    cases hi
    have : part u.sz (mzeros u.zcells (k * u.sz)) i = u.zcells := by
      have hm : i * u.sz + u.sz ≤ k * u.sz := by rw [← Nat.succ_mul]; exact Nat.mul_le_mul_right _ hik
      refine List.ext_getElem? fun j => ?_
      unfold mzeros
      rw [part_eq, List.getElem?_take]
      split
      · rename_i hj
        rw [List.getElem?_drop, List.getElem?_map, List.getElem?_range (by omega), hz, Nat.mul_comm]
        simp only [Option.map_some]
        rw [Nat.mul_add_mod, Nat.mod_eq_of_lt hj]
        show some (u.zcells.getD j _) = _
        rw [List.getD_eq_getElem?_getD, List.getElem?_eq_getElem (by omega)]; rfl
      · rw [List.getElem?_eq_none (by omega)]
    rw [this]; exact .zero
  · cases hi
theorem alloc_sound (hr : RH X) {t : TypeId} {v : SV} {sh' : SH} (h : salloc P t X.sh = some (true, v, sh')) : ∃ rs, mop P m X.h (.alloc t) = some rs ∧ SRR X (.val v sh') rs := by
  unfold salloc at h
  split at h
  · rename_i w h2 ha
    cases h
    unfold allocArr at ha
    split at ha
    · rename_i n el hu
      split at ha
      · rename_i u z hu6 hz
        split at ha
        · rename_i hall
          cases ha
          simp only [Bool.and_eq_true] at hall
          obtain ⟨⟨hpl, _⟩, hb⟩ := hall
          have hb := AV.beqL_eq _ _ hb
          have hp : 0 < u.sz := by cases u <;> first | (cases hpl; done) | exact Nat.one_pos
          have hlen : z.cells.length = n * u.sz := by rw [hb]; simp [mzeros]
          have hg1 : (X.h ++ [Blk.row z.cells 0 0 0 false (some t)])[X.h.length]? = some (.row z.cells 0 0 0 false (some t)) := by rw [Arr.get_app_right (Nat.le_refl _), Nat.sub_self]; rfl
          refine ⟨.val (.ptr X.h.length 0 0 z.cells.length) (mkRow X.h z.cells t), by simp only [mop, hz], _, Stp.push hr (b := .seq u (List.replicate n u.zero) 0 0) (blk := .row z.cells 0 0 0 false (some t)) (by simp [SB.md]) (fun hle => ⟨z.cells, 0, some t, hg1, Nat.le_refl _, hb ▸ RCs.zeros hp n, fun e => by cases e⟩), rfl, rfl, rfl, some (X.h.length, 0), ?_, fun u' l' k' md' hb' => ?_⟩
          · show (X.σ ++ [_])[X.sh.length]? = _
            rw [← hr.len, List.getElem?_append_right (Nat.le_refl _), Nat.sub_self]; rfl
          · have hb' : (X.sh ++ [SB.seq u (List.replicate n u.zero) 0 0])[X.sh.length]? = some (.seq u' l' k' md') := hb'
            rw [List.getElem?_append_right (Nat.le_refl _), Nat.sub_self] at hb'
            cases hb'
            exact ⟨Nat.le_refl _, fun _ => ⟨by simp, X.h.length, rfl, by rw [hlen]⟩⟩
        · cases ha
      · cases ha
    · cases ha
  split at h
  · rename_i z hz
    split at h
    · rename_i w h2 hb
      cases h
      obtain ⟨x, h3, h4⟩ := szero_sound (X := X) hz
      obtain ⟨Y, h5, h6, h7, h8⟩ := sbox_sound hr t h4 hb
      exact ⟨.val _ _, by simp only [mop, h3], Y, h5, h6, h7, h8⟩
    · cases h
  · cases h
def smakeSlice (P : Program) (t : TypeId) (l c : SV) (h : SH) : Option (Bool × SV × SH) :=
  match P.underlying t, l, c with
  | some (.slice e), .a (.int _ l), .a (.int _ c) => match uOf P 6 e with
    | some u => match elOk P e u with
      | true => some ((decide (c ≤ l) || (decide (l ≤ 0) || decide (64 < c))) && (decide (0 ≤ l) && decide (l ≤ c) && decide (c < 549755813888)), .gs h.length 0, h ++ [.seq u (List.replicate l.toNat u.zero) 0 0])
      | false => none
    | none => none
  | _, _, _ => none
theorem makeSlice_sound (hr : RH X) (he : EvR X e m) {t : TypeId} {ol oc : Operand} {l c v : SV} {sh' : SH} (hl : e ol = some l) (hc : e oc = some c) (h : smakeSlice P t l c X.sh = some (true, v, sh')) : ∃ rs, mop P m X.h (.makeSlice t ol oc) = some rs ∧ SRR X (.val v sh') rs := by
  obtain ⟨xl, h1, h2⟩ := he _ _ hl
  obtain ⟨xc, h3, h4⟩ := he _ _ hc
  unfold smakeSlice at h
  split at h
  · rename_i el k1 n k2 c hu
    cases (show xl = _ from h2); cases (show xc = _ from h4)
    split at h
    · rename_i u hu6
      split at h
      · rename_i hel
        simp only [Option.some.injEq, Prod.mk.injEq, Bool.and_eq_true, Bool.or_eq_true, decide_eq_true_eq] at h
        obtain ⟨⟨q0, ⟨q1, q2⟩, q3⟩, rfl, rfl⟩ := h
        have hmk : mkCap n.toNat c.toNat = n.toNat := if_neg (by omega)
        obtain ⟨i, z, x, E⟩ := elOk_iff hel
        obtain ⟨Y, h5, h6, h7, h8⟩ := push_row hr (u := u) (l := List.replicate n.toNat u.zero) (tt := some el) (RCs.zeros E.pos n.toNat)
        rw [List.length_replicate] at h8
        refine ⟨.val _ _, ?_, Y, h5, h6, h7, h8⟩
        simp only [mop, h1, h3, mmakeSlice, hu, E.info, E.zo, hmk]
        rw [if_pos ⟨q1, q2, q3, E.bytes, by rw [E.size]; exact E.pos, by rw [E.xc, zcells_length, E.size]⟩, E.xc, E.size]
        rfl
      · cases h
    · cases h
  · cases h
theorem RCs.flat {u : U} {l : List (El u)} : ∀ {cs : List AV}, RCs X.h X.Φ u l cs → RVs X (l.flatMap (enc u)) cs := by
  induction l with
  | nil => intro cs q; have := q.1; simp at this; subst this; rfl
  | cons a l ih =>
    intro cs q
    have hl := q.1
    rw [List.length_cons, Nat.succ_mul] at hl
    have h0 := q.2 0 a rfl
    rw [part_eq, Nat.zero_mul, List.drop_zero] at h0
    rw [List.flatMap_cons, ← List.take_append_drop u.sz cs]
    refine (enc_sound h0).append (ih ⟨by rw [List.length_drop]; omega, fun i e hi => ?_⟩)
    have := q.2 (i + 1) e hi
    rw [part_eq, Nat.succ_mul] at this
    rw [part_eq, List.drop_drop, Nat.add_comm]
    exact this
/-- Zeros of elements that have no kind. -/
def szeros (z : List SV) (n : Nat) : List SV := (List.range n).map fun i => z.getD (i % z.length) .top
theorem szeros_sound {zs : List SV} {xs : List AV} (q : RVs X zs xs) (hp : 0 < zs.length) (n : Nat) : RVs X (szeros zs n) (mzeros xs n) := by
  have hl := q.length
  have key : ∀ i, RV X (zs.getD (i % zs.length) .top) (xs.getD (i % xs.length) .undef) := fun i => by
    have hi := Nat.mod_lt i hp
    obtain ⟨x, h1, h2⟩ := q.get (List.getElem?_eq_getElem hi)
    rw [hl, List.getD_eq_getElem?_getD, List.getElem?_eq_getElem hi, List.getD_eq_getElem?_getD, h1]
    exact h2
  unfold szeros mzeros
  generalize List.range n = l
  induction l with
  | nil => rfl
  | cons a l ih => exact ⟨_, _, rfl, key a, ih⟩
def sbuildSlice (P : Program) (t : TypeId) (len : Nat) (parts : List (Nat × SV)) (h : SH) : Option (Bool × SV × SH) :=
  match P.underlying t with
  | some (.slice e) => match uOf P 6 e with
    | some u => match elOk P e u && Nat.ble (len * u.sz) (2 ^ 24) with
      | true => match sfill (fun i => some (i * u.sz, u.sz)) ((List.replicate len u.zero).flatMap (enc u)) parts with
        | some cs => match decs u len cs h with
          | some (l, h') => some (true, .gs h'.length 0, h' ++ [.seq u l 0 0])
          | none => none
        | none => none
      | false => none
    | none => match szOf P e, szero P e with
      | some (k + 1), some z => match z.whole && Nat.beq z.cells.length (k + 1) && Nat.ble (len * (k + 1)) (2 ^ 24) with
        | true => match sfill (fun i => some (i * (k + 1), k + 1)) (szeros z.cells (len * (k + 1))) parts with
          | some cs => some (true, .csl h.length 0 len (k + 1), h ++ [.cells cs 0])
          | none => none
        | false => none
      | _, _ => none
  | _ => none
theorem buildSlice_sound (hr : RH X) (he : EvR X e m) {t : TypeId} {len : Nat} {parts : Array (Nat × Operand)} {ps : List (Nat × SV)} {v : SV} {sh' : SH} (hp : sparts e parts.toList = some ps) (h : sbuildSlice P t len ps X.sh = some (true, v, sh')) : ∃ rs, mop P m X.h (.buildSlice t len parts) = some rs ∧ SRR X (.val v sh') rs := by
  obtain ⟨qs, h1, h2⟩ := sparts_sound he hp
  unfold sbuildSlice at h
  split at h
  · rename_i el hu
    split at h
    · rename_i u hu6
      split at h
      · rename_i hb
        simp only [Bool.and_eq_true] at hb
        obtain ⟨i, z, x, E⟩ := elOk_iff hb.1
        have hlen := Nat.le_of_ble_eq_true hb.2
        split at h
        · rename_i cs hcs
          split at h
          · rename_i l h' hd
            cases h
            obtain ⟨r', q1, q2⟩ := sfill_sound ((RCs.zeros E.pos len).flat) h2 hcs
            obtain ⟨Y, S1, hh, hs, hll, hR⟩ := decs_sound u len hr q2 hd
            obtain ⟨Z, h5, h6, h7, h8⟩ := push_row S1.hr (tt := some el) hR
            rw [hs] at h6 h8
            rw [hh] at h7 h8
            rw [hll] at h8
            refine ⟨.val _ _, ?_, Z, S1.trans h5, h6, h7, h8⟩
            have hpos := E.pos
            obtain ⟨n, hn⟩ : ∃ n, u.sz = n + 1 := ⟨u.sz - 1, by omega⟩
            have hsz := E.sz
            rw [hn] at hsz q1
            simp only [mop, h1, mbuildSlice, hu, hsz, E.zo]
            rw [if_pos ⟨by rw [← hn]; exact hlen, by rw [E.xc, zcells_length, hn]⟩, E.xc]
            simp only [q1, rvh]
            rw [hn]; rfl
          · cases h
        · cases h
      · cases h
    · rename_i hu6
      split at h
      · rename_i k z hk hz
        split at h
        · rename_i hb
          simp only [Bool.and_eq_true] at hb
          split at h
          · rename_i cs hcs
            cases h
            obtain ⟨x, hx1, hx2⟩ := szero_sound (X := X) hz
            have hc := hx2.wholeC hb.1.1
            have hlen : z.cells.length = k + 1 := Nat_beq hb.1.2
            obtain ⟨r', q1, q2⟩ := sfill_sound (szeros_sound hc (by omega) (len * (k + 1))) h2 hcs
            obtain ⟨Y, h5, h6, h7, h8⟩ := push_cells hr (tt := some el) q2
            refine ⟨.val (.sl X.h.length 0 len (k + 1) 0 false) (mkRow X.h r' el), ?_, Y, h5, h6, h7, X.h.length, h8, rfl⟩
            simp only [mop, h1, mbuildSlice, hu, hk, hx1]
            rw [if_pos ⟨Nat.le_of_ble_eq_true hb.2, by rw [hc.length]; exact hlen⟩]
            simp only [q1, rvh]
          · cases h
        · cases h
      · cases h
  · cases h

/-! Rows that grow, and copies. -/
def srows (P : Program) (t2 : TypeId) (u : U) (x : SV) (h : SH) : Option (List (El u)) := match P.underlying t2 with
  | some .string => match x with
    | .a (.str l) => castU .u8 u l
    | _ => none
  | some (.slice _) => reads u x h
  | _ => none
theorem srows_sound (hr : RH X) {t2 : TypeId} {u : U} {v : SV} {x : AV} {l : List (El u)} (hv : RV X v x) (h : srows P t2 u v X.sh = some l) :
    ∃ xs, RCs X.h X.Φ u l xs ∧ msrc P t2 u.sz x X.h = some (xs, l.length) := by
  unfold srows at h
  split at h
  · rename_i hu
    split at h
    · rename_i s
      cases (show x = _ from hv)
      obtain ⟨e1, e2⟩ := castU_eq h
      subst e1; cases e2
      exact ⟨_, .ofBytes s, by simp only [msrc, hu, U.sz, if_true]⟩
    · cases h
  · rename_i el hu
    rcases reads_sound hr hv h with ⟨rfl, rfl⟩ | ⟨m', off, ver, clip, cs, rfl, q1, q2⟩
    · exact ⟨[], .nil, by simp only [msrc, hu]; rfl⟩
    · exact ⟨cs, q2, by simp only [msrc, hu, if_true, q1]⟩
  · cases h
theorem RCs.ones {h : Heap} {Φ : Nat → Prop} {u : U} : ∀ {l : List (El u)} {cs : List AV}, RCs h Φ u l cs → cs.all AV.one = true := by
  intro l
  induction l with
  | nil => intro cs q; have := q.1; simp at this; subst this; rfl
  | cons a l ih =>
    intro cs q
    have hl := q.1
    rw [List.length_cons, Nat.succ_mul] at hl
    have h0 := q.2 0 a rfl
    rw [part_eq, Nat.zero_mul, List.drop_zero] at h0
    rw [← List.take_append_drop u.sz cs, List.all_append, h0.one, ih ⟨by rw [List.length_drop]; omega, fun i e hi => ?_⟩]; rfl
    have := q.2 (i + 1) e hi
    rw [part_eq, Nat.succ_mul] at this
    rw [part_eq, List.drop_drop, Nat.add_comm]
    exact this
/-- What append and copy read, by append's own words. -/
theorem mappend_src {t t2 : TypeId} {el : TypeId} {u : U} {i : TypeInfo} {z : Value} {x0 : AV} (hu : P.underlying t = some (.slice el)) (E : ElOk P el u i z x0) {s x : AV} {h : Heap} {xs : List AV} {k : Nat} (hs : msrc P t2 u.sz x h = some (xs, k)) : mappend P t t2 s x h = Mx.app h el s u.sz xs k := by
  unfold msrc at hs
  simp only [mappend, hu, E.info, E.zero]
  rw [if_pos ⟨E.zc, E.bytes⟩, E.size]
  split at hs
  · rename_i hu2; cases hs; rfl
  · rename_i hu2
    split at hs
    · rename_i hz
      split at hs
      · rename_i cs hc; cases hs; subst hz; rw [if_pos rfl]
      · cases hs
    · cases hs
  · rename_i hu2
    split at hs
    · rename_i hz; cases hs; rw [if_pos hz, hz]
    · cases hs
  · cases hs
def sappend (P : Program) (t t2 : TypeId) (s x : SV) (h : SH) : Alts :=
  match P.underlying t with
  | some (.slice e) => match uOf P 6 e with
    | some u => match elOk P e u, srows P t2 u x h, s with
      | true, some xs, .a .nils => one (Nat.blt xs.length lim39) (.gs h.length 0) (h ++ [.seq u xs 0 0])
      | true, some xs, .gs loc n => match h[loc]? with
        | some (.seq u' l k 0) => match Nat.beq k n, castU u' u l with
          | true, some l => one (Nat.blt (l.length + xs.length) lim39) (.gs loc (n + 1)) (h.set loc (.seq u (l ++ xs) (n + 1) 0))
          | _, _ => []
        | _ => []
      | true, some xs, .cl u' [] => match decide (u' = u) with
        | true => [(Nat.beq xs.length 0, .val (.isl u []) h), (Nat.blt xs.length lim39, .val (.gs h.length 0) (h ++ [.seq u xs 0 0]))]
        | false => []
      | _, _, _ => []
    | none => []
  | _ => []
theorem push_gs (hr : RH X) {el : TypeId} {u : U} {l : List (El u)} {xs : List AV} (hR : RCs X.h X.Φ u l xs) (hp : 0 < u.sz) (hl : Nat.blt l.length lim39 = true) :
    ∃ y h', Mx.app X.h el .nils u.sz xs l.length = some (y, h') ∧ ∃ Y, Stp X Y ∧ Y.sh = X.sh ++ [.seq u l 0 0] ∧ Y.h = h' ∧ RV Y (.gs X.sh.length 0) y := by
  by_cases h0 : l.length = 0
  · have hl0 : l = [] := List.length_eq_zero_iff.1 h0
    subst hl0
    refine ⟨.nils, X.h, ?_, _, Stp.pushV hr (b := .seq u [] 0 0) (by simp [SB.md]) (fun _ => rfl), rfl, rfl, rfl, none, ?_, fun u' l' k' md' hb' => ?_⟩
    · unfold Mx.app; rw [if_pos ⟨hR.ones, hR.1, hp⟩]; rfl
    · show (X.σ ++ [_])[X.sh.length]? = _
      rw [← hr.len, List.getElem?_append_right (Nat.le_refl _), Nat.sub_self]; rfl
    · have hb' : (X.sh ++ [SB.seq u [] 0 0])[X.sh.length]? = some (.seq u' l' k' md') := hb'
      rw [List.getElem?_append_right (Nat.le_refl _), Nat.sub_self] at hb'
      cases hb'
      exact ⟨Nat.le_refl _, fun _ => ⟨rfl, rfl⟩⟩
  · obtain ⟨Y, h5, h6, h7, h8⟩ := push_row hr (tt := some el) hR
    refine ⟨_, _, ?_, Y, h5, h6, h7, h8⟩
    unfold Mx.app
    rw [if_pos ⟨hR.ones, hR.1, hp⟩]
    simp only
    rw [if_neg h0, if_pos (show l.length < 549755813888 from blt_iff hl)]; rfl
theorem sappend_sound (hr : RH X) {t t2 : TypeId} {s x : SV} {ms mx : AV} {q : SR} (h2 : RV X s ms) (h4 : RV X x mx) (h : Hit (sappend P t t2 s x X.sh) q) : ∃ y h' v sh', mappend P t t2 ms mx X.h = some (y, h') ∧ q = .val v sh' ∧ ∃ Y, Stp X Y ∧ Y.sh = sh' ∧ Y.h = h' ∧ RV Y v y := by
  unfold sappend at h
  split at h
  · rename_i el hu
    split at h
    · rename_i u hu6
      split at h
      · rename_i xs hel hsr
        obtain ⟨hg, rfl⟩ := hit_one h
        cases (show ms = _ from h2)
        obtain ⟨i, z, x0, E⟩ := elOk_iff hel
        obtain ⟨cs, hR, hms⟩ := srows_sound hr h4 hsr
        obtain ⟨y, h', h5, Y, h6, h7, h8, h9⟩ := push_gs hr (el := el) hR E.pos hg
        exact ⟨y, h', _, _, (mappend_src hu E hms).trans h5, rfl, Y, h6, h7, h8, h9⟩
      · rename_i xs loc n hel hsr
        split at h
        · rename_i u' l k hb
          split at h
          · rename_i l2 hk hcu
            obtain ⟨hg, rfl⟩ := hit_one h
            have hk := Nat_beq hk
            subst hk
            obtain ⟨e1, e2⟩ := castU_eq hcu
            subst e1; cases e2
            obtain ⟨i, z, x0, E⟩ := elOk_iff hel
            obtain ⟨cs, hR, hms⟩ := srows_sound hr h4 hsr
            obtain ⟨hone, o, ho, hc⟩ := h2
            have hQ := (hc _ _ _ _ hb).2 rfl
            have hB := hr.blk _ _ _ hb ho
            rw [mappend_src hu E hms]
            have hlt := blt_iff hg
            have hlen : (l ++ xs).length = l.length + xs.length := List.length_append
            have hloc := (List.getElem?_eq_some_iff.1 hb).1
            have hsetσ : ∀ o', (X.σ.set loc o')[loc]? = some o' := fun o' => List.getElem?_set_self (by rw [hr.len]; exact hloc)
            have hsets : ∀ b', (X.sh.set loc b')[loc]? = some b' := fun b' => List.getElem?_set_self hloc
            cases o with
            | none =>
              obtain ⟨rfl, hl0⟩ := hQ
              have hl0' : l = [] := List.length_eq_zero_iff.1 hl0
              subst hl0'
              by_cases h0 : xs.length = 0
              · have hx0 : xs = [] := List.length_eq_zero_iff.1 h0
                subst hx0
                refine ⟨.nils, X.h, _, _, by unfold Mx.app; rw [if_pos ⟨hR.ones, hR.1, E.pos⟩]; rfl, rfl, ⟨X.h, X.Φ, X.σ.set loc none, X.sh.set loc (.seq u' ([] ++ []) (k + 1) 0)⟩, ?_, rfl, rfl, rfl, none, hsetσ _, fun u2 l2 k2 md2 hb2 => ?_⟩
                · refine Stp.turn hr hb ho (by simp) (fun _ _ _ => rfl) (fun _ _ e => by cases e) (Nat.le_refl _) (fun m => ⟨.inl, fun h => h.elim id fun h => by cases h.1⟩) rfl rfl (fun _ _ e => by cases e) (fun _ _ e => by cases e)
                    (fun u3 l3 k3 md3 e => by cases e; exact ⟨[], k, 0, rfl, Nat.le_succ _, fun e => absurd e (by omega)⟩) (fun h => h) (fun h => h.elim (fun h => by cases h) fun h => by cases h) fun _ => rfl
                · rw [hsets] at hb2; cases hb2; exact ⟨Nat.le_refl _, fun _ => ⟨rfl, rfl⟩⟩
              · refine ⟨.sl X.h.length 0 xs.length u'.sz 0 false, mkRow X.h cs el, _, _, ?_, rfl, ⟨mkRow X.h cs el, X.Φ, X.σ.set loc (some (X.h.length, 0)), X.sh.set loc (.seq u' ([] ++ xs) (k + 1) 0)⟩, ?_, rfl, rfl, rfl, some (X.h.length, 0), hsetσ _, fun u2 l2 k2 md2 hb2 => ?_⟩
                · unfold Mx.app
                  rw [if_pos ⟨hR.ones, hR.1, E.pos⟩]
                  simp only
                  rw [if_neg h0, if_pos (show xs.length < 549755813888 by simpa [lim39] using hlt)]
                · refine Stp.turn hr hb ho (by simp) (fun m hm _ => Arr.get_app_left hm) (fun _ _ e => by cases e) (by show _ ≤ (X.h ++ [Blk.row cs 0 0 0 false (some el)]).length; rw [Arr.length_app]; omega) (fun m => ⟨.inl, fun h => h.elim id fun h => by cases h.1⟩) rfl rfl (fun _ _ e => by cases e; exact ⟨by show _ < (X.h ++ [Blk.row cs 0 0 0 false (some el)]).length; rw [Arr.length_app]; simp, .inr ⟨rfl, Nat.le_refl _⟩⟩) (fun _ _ e => by cases e)
                    (fun u3 l3 k3 md3 e => by cases e; exact ⟨[], k, 0, rfl, Nat.le_succ _, fun e => absurd e (by omega)⟩) (fun h => h) (fun h => h.elim (fun h => by cases h) fun h => by cases h) fun hle => ⟨cs, 0, some el, ?_, Nat.le_refl _, hR.le hle.h hle.Φ, fun e => by cases e⟩
                  show (X.h ++ [_])[X.h.length]? = _
                  rw [Arr.get_app_right (Nat.le_refl _), Nat.sub_self]; rfl
                · rw [hsets] at hb2; cases hb2; exact ⟨Nat.le_refl _, fun _ => rfl⟩
            | some p =>
              obtain ⟨mm, ver⟩ := p
              obtain ⟨cells, minv, tt, q1, q2, q3, q4⟩ := hB
              cases (show ms = _ from hQ)
              have hmm := hr.lt _ _ _ ho
              by_cases h0 : xs.length = 0
              · have hx0 : xs = [] := List.length_eq_zero_iff.1 h0
                subst hx0
                refine ⟨.sl mm 0 l.length u'.sz ver false, X.h, _, _, ?_, rfl, ⟨X.h, X.Φ, X.σ.set loc (some (mm, ver)), X.sh.set loc (.seq u' (l ++ []) (k + 1) 0)⟩, ?_, rfl, rfl, rfl, some (mm, ver), hsetσ _, fun u2 l2 k2 md2 hb2 => ?_⟩
                · unfold Mx.app
                  rw [if_pos ⟨hR.ones, hR.1, E.pos⟩]
                  simp only
                  rw [if_pos ⟨trivial, hlt⟩]; rfl
                · refine Stp.turn hr hb ho (by simp) (fun _ _ _ => rfl) (fun _ _ e => .inl rfl) (Nat.le_refl _) (fun m => ⟨.inl, fun h => h.elim id fun h => by cases h.1⟩) rfl rfl (fun _ _ e => by cases e; exact ⟨hmm, .inl ⟨_, rfl⟩⟩) (fun m v e => ⟨v, e⟩)
                    (fun u3 l3 k3 md3 e => by cases e; exact ⟨l, k, 0, rfl, Nat.le_succ _, fun e => absurd e (by omega)⟩) (fun h => h) (fun h => h.elim (fun h => by cases h) fun h => by cases h) fun hle => ⟨cells, minv, tt, q1, q2, by rw [List.append_nil]; exact q3.le hle.h hle.Φ, fun e => by cases e⟩
                · rw [hsets] at hb2; cases hb2; exact ⟨Nat.le_refl _, fun _ => by rw [List.append_nil]⟩
              · refine ⟨.sl mm 0 (l.length + xs.length) u'.sz (ver + 1) false, X.h.set mm (.row (cells ++ cs) (ver + 1) minv 0 false (if tt = some el then tt else none)), _, _, ?_, rfl,
                  ⟨X.h.set mm (.row (cells ++ cs) (ver + 1) minv 0 false (if tt = some el then tt else none)), X.Φ, X.σ.set loc (some (mm, ver + 1)), X.sh.set loc (.seq u' (l ++ xs) (k + 1) 0)⟩, ?_, rfl, rfl, rfl, some (mm, ver + 1), hsetσ _, fun u2 l2 k2 md2 hb2 => ?_⟩
                · unfold Mx.app
                  rw [if_pos ⟨hR.ones, hR.1, E.pos⟩]
                  simp only
                  rw [if_pos ⟨trivial, hlt⟩, if_neg h0, if_neg (by simp), q1]
                  simp only
                  rw [if_pos trivial, if_pos (by rw [q3.1, Nat.zero_add])]
                · refine Stp.turn hr hb ho (by simp) (fun m' hm' hne => Arr.get_set_ne fun e => hne ver (e ▸ rfl)) (fun _ _ _ => .inr rfl) (by show _ ≤ (X.h.set _ _).length; rw [Arr.length_set]; exact Nat.le_refl _) (fun m => ⟨.inl, fun h => h.elim id fun h => by cases h.1⟩) rfl rfl
                    (fun _ _ e => by cases e; exact ⟨by show _ < (X.h.set _ _).length; rw [Arr.length_set]; exact hmm, .inl ⟨_, rfl⟩⟩) (fun m v e => by cases e; exact ⟨_, rfl⟩)
                    (fun u3 l3 k3 md3 e => by cases e; exact ⟨l, k, 0, rfl, Nat.le_succ _, fun e => absurd e (by omega)⟩) (fun h => h) (fun h => h.elim (fun h => by cases h) fun h => by cases h)
                    fun hle => ⟨_, minv, _, Arr.get_set_self hmm, Nat.le_succ_of_le q2, (q3.le hle.h hle.Φ).append (hR.le hle.h hle.Φ), fun e => by cases e⟩
                · rw [hsets] at hb2; cases hb2; exact ⟨Nat.le_refl _, fun _ => by rw [hlen]⟩
          · cases h
        · cases h
      · rename_i xs u' hel hsr
        split at h
        · rename_i hdu
          have hdu := of_decide_eq_true hdu
          subst hdu
          obtain ⟨i, z, x0, E⟩ := elOk_iff hel
          obtain ⟨cs, hR, hms⟩ := srows_sound hr h4 hsr
          rw [mappend_src hu E hms]
          rcases h with ⟨h0, rfl⟩ | ⟨h0, ⟨hg, rfl⟩ | ⟨_, h⟩⟩
          · have h0 := Nat_beq h0
            refine ⟨ms, X.h, _, _, ?_, rfl, X, .refl hr, rfl, rfl, ?_⟩
            · unfold Mx.app
              rw [if_pos ⟨hR.ones, hR.1, E.pos⟩, h0]
              rcases h2.1 with ⟨_, rfl⟩ | ⟨m', off, ver, c', cs', rfl, hc', hΦ, hrd, hRC⟩
              · rfl
              · simp only; rw [if_pos ⟨trivial, by simp⟩]; rfl
            · rcases h2.1 with h2 | ⟨m', off, ver, c', cs', rfl, hc', hΦ, hrd, hRC⟩
              · exact .inl h2
              · exact .inr ⟨m', off, ver, c', cs', rfl, .inr rfl, hΦ, hrd, hRC⟩
          · have h0 : ¬ xs.length = 0 := fun e => by rw [e] at h0; cases h0
            obtain ⟨y, h', h5, Y, h6, h7, h8, h9⟩ := push_gs hr (el := el) hR E.pos hg
            obtain ⟨h2, hcl⟩ := h2
            rcases h2 with ⟨_, rfl⟩ | ⟨m', off, ver, c', cs', rfl, hc', hΦ, hrd, hRC⟩
            · exact ⟨y, h', _, _, h5, rfl, Y, h6, h7, h8, h9⟩
            · have hcl : c' = true := hcl
              subst hcl
              obtain ⟨Y, h5, h6, h7, h8⟩ := push_row hr (tt := some el) hR
              refine ⟨_, _, _, _, ?_, rfl, Y, h5, h6, h7, h8⟩
              have hcs' : cs' = [] := List.length_eq_zero_iff.1 (by have := hRC.1; simpa using this)
              subst hcs'
              have hlt := blt_iff hg
              unfold Mx.app
              rw [if_pos ⟨hR.ones, hR.1, E.pos⟩]
              simp only [List.length_nil, Nat.zero_add] at hrd ⊢
              rw [if_pos ⟨trivial, show xs.length < 549755813888 from hlt⟩, if_neg h0, if_pos trivial, hrd]
              rfl
          · cases h
        · cases h
      · cases h
    · cases h
  · cases h
end
end Go.Sx

/- The symbolic machine S: all operations. -/
set_option linter.unusedVariables false
set_option linter.unusedSimpArgs false
namespace Go.Sx
open Go Go.Gx Go.Mx

section
variable {P : Program} {gl : GL} {X : Gst} {e : Operand → Option SV} {m : Operand → Option AV}
def updTo {α : Type} (l : List α) (off : Nat) (xs : List α) : List α := l.take off ++ xs ++ l.drop (off + xs.length)
theorem RCs.take {h : Heap} {Φ : Nat → Prop} {u : U} {l : List (El u)} {cs : List AV} (q : RCs h Φ u l cs) (n : Nat) (hn : n ≤ l.length) : RCs h Φ u (l.take n) (cs.take (n * u.sz)) := by
  have := q.slice (a := 0) (n := n) (by omega)
  simpa [Sx.slice] using this
theorem RCs.drop {h : Heap} {Φ : Nat → Prop} {u : U} {l : List (El u)} {cs : List AV} (q : RCs h Φ u l cs) (n : Nat) (hn : n ≤ l.length) : RCs h Φ u (l.drop n) (cs.drop (n * u.sz)) := by
  have := q.slice (a := n) (n := l.length - n) (by omega)
  have h1 := q.1
  have e1 : Sx.slice l n (n + (l.length - n)) = l.drop n := by unfold Sx.slice; rw [List.take_of_length_le (by rw [List.length_drop]; omega)]
  have e2 : (cs.drop (n * u.sz)).take ((l.length - n) * u.sz) = cs.drop (n * u.sz) := List.take_of_length_le (by rw [List.length_drop, h1, Nat.sub_mul]; exact Nat.le_refl _)
  rwa [e1, e2] at this
def scopy (P : Program) (t t2 : TypeId) (d x : SV) (h : SH) : Option (Bool × SV × SH) :=
  match P.underlying t with
  | some (.slice e) => match uOf P 6 e with
    | some u => match elOk P e u, srows P t2 u x h, d with
      | true, some xs, .gs loc n => match h[loc]? with
        | some (.seq u' l k 0) => match Nat.beq k n, castU u' u l with
          | true, some l => some (true, .a (.int .i64 (min xs.length l.length : Nat)), h.set loc (.seq u (updTo l 0 (xs.take l.length)) n 0))
          | _, _ => none
        | _ => none
      | true, some xs, .sl loc n off len _ => match h[loc]? with
        | some (.seq u' l k 0) => match Nat.beq k n, castU u' u l with
          | true, some l => some (true, .a (.int .i64 (min xs.length len : Nat)), h.set loc (.seq u (updTo l off (xs.take len)) n 0))
          | _, _ => none
        | _ => none
      | _, _, _ => none
    | none => none
  | _ => none
theorem copy_in (hr : RH X) {loc : Nat} {u : U} {l xs : List (El u)} {k off len mm ver : Nat} {c : Bool} {cs : List AV} (hp : 0 < u.sz) (hb : X.sh[loc]? = some (.seq u l k 0)) (ho : X.σ[loc]? = some (some (mm, ver))) (hl : off + len ≤ l.length) (hR : RCs X.h X.Φ u xs cs) :
    ∃ h', (if min xs.length len = 0 then some (AV.int .i64 0, X.h) else match wr X.h mm (off * u.sz) ver (off * u.sz + len * u.sz) (cs.take (min xs.length len * u.sz)) with | some h' => some (AV.int .i64 (min xs.length len : Nat), h') | none => none) = some (AV.int .i64 (min xs.length len : Nat), h') ∧
      ∃ Y, Stp X Y ∧ Y.sh = X.sh.set loc (.seq u (updTo l off (xs.take len)) k 0) ∧ Y.h = h' := by
  obtain ⟨cells, minv, tt, q1, q2, q3, q4⟩ := hr.blk _ _ _ hb ho
  have hmm := hr.lt _ _ _ ho
  have hxl : (xs.take len).length = min xs.length len := by rw [List.length_take]; exact Nat.min_comm _ _
  have hupd : (updTo l off (xs.take len)).length = l.length := by
    unfold updTo; rw [List.length_append, List.length_append, List.length_take, List.length_drop, hxl]; omega
  by_cases h0 : min xs.length len = 0
  · refine ⟨X.h, by rw [if_pos h0, h0]; rfl, ⟨X.h, X.Φ, X.σ, X.sh.set loc (.seq u (updTo l off (xs.take len)) k 0)⟩, ?_, rfl, rfl⟩
    have hx0 : xs.take len = [] := List.length_eq_zero_iff.1 (hxl.trans h0)
    have he : updTo l off (xs.take len) = l := by unfold updTo; rw [hx0]; simp
    rw [he]
    refine Stp.turn hr hb ho (by simp) (fun _ _ _ => rfl) (fun _ _ e => .inl rfl) (Nat.le_refl _) (fun m => ⟨.inl, fun h => h.elim id fun h => by cases h.1⟩) (set_ext ho).symm rfl (fun _ _ e => by cases e; exact ⟨hmm, .inl ⟨_, rfl⟩⟩) (fun m v e => ⟨v, e⟩)
      (fun u3 l3 k3 md3 e => by cases e; exact ⟨l, k, 0, rfl, Nat.le_refl _, fun _ => ⟨rfl, rfl⟩⟩) (fun h => h) (fun h => h.elim (fun h => by cases h) fun h => by cases h) fun hle => ⟨cells, minv, tt, q1, q2, q3.le hle.h hle.Φ, fun e => by cases e⟩
  · have hcl : (cs.take (min xs.length len * u.sz)).length = min xs.length len * u.sz := by
      rw [List.length_take, hR.1]; exact Nat.min_eq_left (Nat.mul_le_mul_right _ (Nat.min_le_left _ _))
    refine ⟨X.h.set mm (.row (cells.take (off * u.sz) ++ cs.take (min xs.length len * u.sz) ++ cells.drop (off * u.sz + (cs.take (min xs.length len * u.sz)).length)) ver ver 0 false tt), ?_, ⟨X.h.set mm (.row (cells.take (off * u.sz) ++ cs.take (min xs.length len * u.sz) ++ cells.drop (off * u.sz + (cs.take (min xs.length len * u.sz)).length)) ver ver 0 false tt), X.Φ, X.σ, X.sh.set loc (.seq u (updTo l off (xs.take len)) k 0)⟩, ?_, rfl, rfl⟩
    · have hones : (cs.take (min xs.length len * u.sz)).all AV.one = true := by
        have := hR.ones
        rw [List.all_eq_true] at this ⊢
        exact fun x hx => this x (List.mem_of_mem_take hx)
      rw [if_neg h0]
      unfold wr; rw [q1]; simp only
      rw [if_pos ⟨trivial, Nat.zero_le _, by rw [hcl]; exact Nat.add_le_add_left (Nat.mul_le_mul_right _ (Nat.min_le_right _ _)) _, hones⟩]
    · refine Stp.turn hr hb ho (by simp) (fun m' hm' hne => Arr.get_set_ne fun e => hne ver (e ▸ rfl)) (fun _ _ _ => .inr rfl) (by show _ ≤ (X.h.set _ _).length; rw [Arr.length_set]; exact Nat.le_refl _)
        (fun m => ⟨.inl, fun h => h.elim id fun h => by cases h.1⟩) (set_ext ho).symm rfl (fun m' v' e => by cases e; exact ⟨by show _ < (X.h.set _ _).length; rw [Arr.length_set]; exact hmm, .inl ⟨_, rfl⟩⟩) (fun m v e => ⟨v, e⟩)
        (fun u3 l3 k3 md3 e => by cases e; exact ⟨l, k, 0, rfl, Nat.le_refl _, fun _ => ⟨hupd.symm, rfl⟩⟩) (fun h => h) (fun h => h.elim (fun h => by cases h) fun h => by cases h) fun hle => ?_
      refine ⟨_, ver, tt, Arr.get_set_self hmm, Nat.le_refl _, ?_, fun e => by cases e⟩
      have a1 := (q3.take off (by omega)).append (hR.take (min xs.length len) (Nat.min_le_left _ _))
      have a2 := a1.append (q3.drop (off + min xs.length len) (by omega))
      have e1 : xs.take (min xs.length len) = xs.take len := by rw [List.take_eq_take_iff]; omega
      have e2 : updTo l off (xs.take len) = l.take off ++ xs.take (min xs.length len) ++ l.drop (off + min xs.length len) := by unfold updTo; rw [hxl, e1]
      have a3 := a2.le hle.h hle.Φ
      have e3 : off * u.sz + (cs.take (min xs.length len * u.sz)).length = (off + min xs.length len) * u.sz := by rw [hcl, ← Nat.add_mul]
      rw [← e2, ← e3] at a3
      exact a3
theorem scopy_sound (hr : RH X) {t t2 : TypeId} {d x v : SV} {md mx : AV} {sh' : SH} (h2 : RV X d md) (h4 : RV X x mx) (h : scopy P t t2 d x X.sh = some (true, v, sh')) : ∃ y h', mcopy P t t2 md mx X.h = some (y, h') ∧ ∃ Y, Stp X Y ∧ Y.sh = sh' ∧ Y.h = h' ∧ RV Y v y := by
  unfold scopy at h
  split at h
  · rename_i el hu
    split at h
    · rename_i u hu6
      split at h
      · rename_i xs loc n hel hsr
        split at h
        · rename_i u' l k hb
          split at h
          · rename_i l2 hk hcu
            cases h
            have hk := Nat_beq hk
            subst hk
            obtain ⟨e1, e2⟩ := castU_eq hcu
            subst e1; cases e2
            obtain ⟨i, z, x0, E⟩ := elOk_iff hel
            obtain ⟨cs, hR, hms⟩ := srows_sound hr h4 hsr
            obtain ⟨hone, o, ho, hc⟩ := h2
            have hQ := (hc _ _ _ _ hb).2 rfl
            cases o with
            | none =>
              obtain ⟨rfl, hl0⟩ := hQ
              have hl0' : l = [] := List.length_eq_zero_iff.1 hl0
              subst hl0'
              refine ⟨.int .i64 0, X.h, by simp only [mcopy, hu, E.sz, hms], X, .refl hr, ?_, rfl, ?_⟩
              · exact (set_ext (by rw [hb]; simp [updTo])).symm
              · show _ = _; simp
            | some p =>
              obtain ⟨mm, ver⟩ := p
              cases (show md = _ from hQ)
              obtain ⟨h', h5, Y, h6, h7, h8⟩ := copy_in hr (xs := xs) (off := 0) (len := l.length) (c := false) E.pos hb ho (by omega) hR
              refine ⟨_, h', ?_, Y, h6, h7, h8, rfl⟩
              simp only [mcopy, hu, E.sz, hms, if_true]
              rw [Nat.zero_mul] at h5
              exact h5
          · cases h
        · cases h
      · rename_i xs loc n off len c hel hsr
        split at h
        · rename_i u' l k hb
          split at h
          · rename_i l2 hk hcu
            cases h
            have hk := Nat_beq hk
            subst hk
            obtain ⟨e1, e2⟩ := castU_eq hcu
            subst e1; cases e2
            obtain ⟨i, z, x0, E⟩ := elOk_iff hel
            obtain ⟨cs, hR, hms⟩ := srows_sound hr h4 hsr
            obtain ⟨hone, o, ho, hc⟩ := h2
            obtain ⟨hl, hQ⟩ := (hc _ _ _ _ hb).2 rfl
            cases o with
            | none =>
              cases (show md = _ from hQ)
              have hl0 : l = [] := hr.blk _ _ _ hb ho
              subst hl0
              simp only [List.length_nil, Nat.le_zero_eq, Nat.add_eq_zero_iff] at hl
              obtain ⟨rfl, rfl⟩ := hl
              refine ⟨.int .i64 0, X.h, by simp only [mcopy, hu, E.sz, hms], X, .refl hr, ?_, rfl, ?_⟩
              · exact (set_ext (by rw [hb]; simp [updTo])).symm
              · show _ = _; simp
            | some p =>
              obtain ⟨mm, ver⟩ := p
              cases (show md = _ from hQ)
              obtain ⟨h', h5, Y, h6, h7, h8⟩ := copy_in hr (xs := xs) (off := off) (len := len) (c := c) E.pos hb ho hl hR
              refine ⟨_, h', ?_, Y, h6, h7, h8, rfl⟩
              simp only [mcopy, hu, E.sz, hms, if_true]
              exact h5
          · cases h
        · cases h
      · cases h
    · cases h
  · cases h
def sclear (P : Program) (t : TypeId) (d : SV) (h : SH) : Option SH :=
  match P.underlying t with
  | some (.slice e) => match uOf P 6 e with
    | some u => match elOk P e u, d with
      | true, .gs loc n => match h[loc]? with
        | some (.seq u' l k 0) => match Nat.beq k n, castU u' u l with
          | true, some l => some (h.set loc (.seq u (updTo l 0 ((List.replicate l.length u.zero).take l.length)) n 0))
          | _, _ => none
        | _ => none
      | true, .sl loc n off len _ => match h[loc]? with
        | some (.seq u' l k 0) => match Nat.beq k n, castU u' u l with
          | true, some l => some (h.set loc (.seq u (updTo l off ((List.replicate len u.zero).take len)) n 0))
          | _, _ => none
        | _ => none
      | _, _ => none
    | none => none
  | _ => none
theorem clear_in (hr : RH X) {loc : Nat} {u : U} {l : List (El u)} {k off len mm ver : Nat} {cells : List AV} {e : TypeId} {t : TypeId} {z x0 : AV} {c : Bool} (hu : P.underlying t = some (.slice e)) (hz : zeroOf P e = some x0) (hx : x0.cells = u.zcells) (hp : 0 < u.sz) (hb : X.sh[loc]? = some (.seq u l k 0)) (ho : X.σ[loc]? = some (some (mm, ver))) (hl : off + len ≤ l.length) :
    ∃ h', mclear P t (.sl mm (off * u.sz) len u.sz ver c) X.h = some h' ∧ ∃ Y, Stp X Y ∧ Y.sh = X.sh.set loc (.seq u (updTo l off ((List.replicate len u.zero).take len)) k 0) ∧ Y.h = h' := by
  have hR := RCs.zeros (h := X.h) (Φ := X.Φ) hp len
  obtain ⟨h', h5, Y, h6, h7, h8⟩ := copy_in hr (xs := List.replicate len u.zero) (off := off) (len := len) (c := c) hp hb ho hl hR
  refine ⟨h', ?_, Y, h6, h7, h8⟩
  simp only [mclear, hu, hz]
  simp only [List.length_replicate, Nat.min_self] at h5
  split at h5
  · rename_i h0
    rw [if_pos h0]; cases h5; rfl
  · rename_i h0
    rw [if_neg h0, hx, if_pos zcells_length]
    split at h5
    · rename_i h2 hw
      cases h5
      have hlen : (mzeros u.zcells (len * u.sz)).take (len * u.sz) = mzeros u.zcells (len * u.sz) := List.take_of_length_le (by simp [mzeros])
      rw [hlen] at hw
      exact hw
    · cases h5
theorem sclear_sound (hr : RH X) {t : TypeId} {d : SV} {md : AV} {sh' : SH} (h2 : RV X d md) (h : sclear P t d X.sh = some sh') : ∃ h', mclear P t md X.h = some h' ∧ ∃ Y, Stp X Y ∧ Y.sh = sh' ∧ Y.h = h' := by
  unfold sclear at h
  split at h
  · rename_i el hu
    split at h
    · rename_i u hu6
      split at h
      · rename_i loc n hel
        split at h
        · rename_i u' l k hb
          split at h
          · rename_i l2 hk hcu
            cases h
            have hk := Nat_beq hk
            subst hk
            obtain ⟨e1, e2⟩ := castU_eq hcu
            subst e1; cases e2
            obtain ⟨i, z, x0, E⟩ := elOk_iff hel
            obtain ⟨hone, o, ho, hc⟩ := h2
            have hQ := (hc _ _ _ _ hb).2 rfl
            cases o with
            | none =>
              obtain ⟨rfl, hl0⟩ := hQ
              have hl0' : l = [] := List.length_eq_zero_iff.1 hl0
              subst hl0'
              refine ⟨X.h, by simp only [mclear, hu], X, .refl hr, ?_, rfl⟩
              exact (set_ext (by rw [hb]; simp [updTo])).symm
            | some p =>
              obtain ⟨mm, ver⟩ := p
              cases (show md = _ from hQ)
              have := clear_in hr (off := 0) (len := l.length) (c := false) (cells := []) (z := x0) hu E.zo E.xc E.pos hb ho (by omega)
              rw [Nat.zero_mul] at this
              exact this
          · cases h
        · cases h
      · rename_i loc n off len c hel
        split at h
        · rename_i u' l k hb
          split at h
          · rename_i l2 hk hcu
            cases h
            have hk := Nat_beq hk
            subst hk
            obtain ⟨e1, e2⟩ := castU_eq hcu
            subst e1; cases e2
            obtain ⟨i, z, x0, E⟩ := elOk_iff hel
            obtain ⟨hone, o, ho, hc⟩ := h2
            obtain ⟨hl, hQ⟩ := (hc _ _ _ _ hb).2 rfl
            cases o with
            | none =>
              cases (show md = _ from hQ)
              have hl0 : l = [] := hr.blk _ _ _ hb ho
              subst hl0
              simp only [List.length_nil, Nat.le_zero_eq, Nat.add_eq_zero_iff] at hl
              obtain ⟨rfl, rfl⟩ := hl
              refine ⟨X.h, by simp only [mclear, hu], X, .refl hr, ?_, rfl⟩
              exact (set_ext (by rw [hb]; simp [updTo])).symm
            | some p =>
              obtain ⟨mm, ver⟩ := p
              cases (show md = _ from hQ)
              exact clear_in hr (c := c) (cells := []) (z := x0) hu E.zo E.xc E.pos hb ho hl
          · cases h
        · cases h
      · cases h
    · cases h
  · cases h
def smx (x y : SV) (mx : Bool) : Option SV := match x, y with
  | .a (.int .u8 _), _ => none
  | .a (.int k a), .a (.int _ b) => some (.a (.int k (match mx with | true => if b > a then b else a | false => if b < a then b else a)))
  | _, _ => none
def sbuiltin (P : Program) (b : Builtin) (ts : List TypeId) (args : List SV) (h : SH) : Alts :=
  match b, ts, args with
  | .len, t :: _, [x] => oneO h ((slen P t x h).map fun n => .a (.int .i64 (n : Int)))
  | .append, [t, t2], [s, x] => sappend P t t2 s x h
  | .copy, [t, t2], [d, x] => oneH (scopy P t t2 d x h)
  | .max, _, [x, y] => oneO h (smx x y true)
  | .min, _, [x, y] => oneO h (smx x y false)
  | .delete, [t, _], [mp, k] => match kvDelete P t mp k h with
    | some h' => one true (.tup []) h'
    | none => []
  | .clear, [t], [x] => match sclear P t x h with
    | some h' => one true (.tup []) h'
    | none => []
  | _, _, _ => []
theorem builtin_sound (hr : RH X) {b : Builtin} {ts : List TypeId} {args : List SV} {xs : List AV} {q : SR} (ha : RVs X args xs) (h : Hit (sbuiltin P b ts args X.sh) q) : ∃ rs, mbuiltin P b ts xs X.h = some rs ∧ SRR X q rs := by
  unfold sbuiltin at h
  split at h
  · rename_i t ts' x
    obtain ⟨v, hv, rfl⟩ := hit_O h
    obtain ⟨a, _, rfl, h1, rfl⟩ := ha
    cases hs : slen P t x X.sh with
    | none => rw [hs] at hv; cases hv
    | some n =>
      rw [hs] at hv; cases hv
      exact ⟨_, by simp only [mbuiltin, slen_sound hr h1 hs, rv], .same hr rfl⟩
  · obtain ⟨a, _, rfl, h1, b, _, rfl, h2, rfl⟩ := ha
    obtain ⟨y, h', v, sh', h3, rfl, Y, h4, h5, h6, h7⟩ := sappend_sound hr h1 h2 h
    exact ⟨.val y h', by simp only [mbuiltin, h3, rvh], Y, h4, h5, h6, h7⟩
  · obtain ⟨a, _, rfl, h1, b, _, rfl, h2, rfl⟩ := ha
    obtain ⟨v, sh', hc, rfl⟩ := hit_H h
    obtain ⟨y, h', h3, Y, h4, h5, h6, h7⟩ := scopy_sound hr h1 h2 hc
    exact ⟨.val y h', by simp only [mbuiltin, h3, rvh], Y, h4, h5, h6, h7⟩
  · obtain ⟨v, hv, rfl⟩ := hit_O h
    obtain ⟨a, _, rfl, h1, b, _, rfl, h2, rfl⟩ := ha
    unfold smx at hv
    split at hv
    · cases hv
    · cases hv; cases (show a = _ from h1); cases (show b = _ from h2)
      exact ⟨_, rfl, .same hr rfl⟩
    · cases hv
  · obtain ⟨v, hv, rfl⟩ := hit_O h
    obtain ⟨a, _, rfl, h1, b, _, rfl, h2, rfl⟩ := ha
    unfold smx at hv
    split at hv
    · cases hv
    · cases hv; cases (show a = _ from h1); cases (show b = _ from h2)
      exact ⟨_, rfl, .same hr rfl⟩
    · cases hv
  · split at h
    · rename_i h' hc
      obtain ⟨_, rfl⟩ := hit_one h
      obtain ⟨a, _, rfl, h1, b, _, rfl, h2, rfl⟩ := ha
      obtain ⟨h3, h4, Y, h5, h6, h7⟩ := kvDelete_sound hr h1 h2 hc
      exact ⟨.val (.tup []) h3, by simp only [mbuiltin, h4], Y, h5, h6, h7, [], rfl, rfl⟩
    · cases h
  · split at h
    · rename_i h' hc
      obtain ⟨_, rfl⟩ := hit_one h
      obtain ⟨a, _, rfl, h1, rfl⟩ := ha
      obtain ⟨h2, h3, Y, h4, h5, h6⟩ := sclear_sound hr h1 hc
      exact ⟨.val (.tup []) h2, by simp only [mbuiltin, h3], Y, h4, h5, h6, [], rfl, rfl⟩
    · cases h
  · cases h

/-- An element of a small array of the call's own, at an index that may not be known. -/
def idxAlts (n : Int) (loc off lim z : Nat) (h : SH) : Nat → Nat → Alts
  | 0, _ => []
  | k + 1, j => (decide (n = (j : Int)), .val (.ptr loc (off + j * z) lim) h) :: idxAlts n loc off lim z h k (j + 1)
theorem idxAlts_hit {n : Int} {loc off lim z : Nat} {h : SH} {q : SR} : ∀ (k j : Nat), Hit (idxAlts n loc off lim z h k j) q → ∃ i : Nat, i < j + k ∧ n = (i : Int) ∧ q = .val (.ptr loc (off + i * z) lim) h
  | 0, _, hh => by cases hh
  | k + 1, j, hh => by
    rcases hh with ⟨h1, h2⟩ | ⟨_, h2⟩
    · exact ⟨j, by omega, of_decide_eq_true h1, h2.symm⟩
    · obtain ⟨i, h3, h4⟩ := idxAlts_hit k (j + 1) h2
      exact ⟨i, by omega, h4⟩
def smallArr (P : Program) (t : TypeId) (v : SV) : Option (Nat × Nat × Nat × Nat × Nat) := match v, P.underlying t with
  | .ptr loc off lim, some (.array len e) => match szOf P e, Nat.ble len 8 with
    | some z, true => some (loc, off, lim, z, len)
    | _, _ => none
  | _, _ => none
theorem smallArr_spec {P : Program} {t : TypeId} {v : SV} {loc off lim z len : Nat} (hs : smallArr P t v = some (loc, off, lim, z, len)) : v = .ptr loc off lim ∧ ∃ e, P.underlying t = some (.array len e) ∧ szOf P e = some z := by
  unfold smallArr at hs
  split at hs
  · rename_i e hu
    split at hs
    · rename_i z' hz hb; cases hs; exact ⟨rfl, e, hu, hz⟩
    · cases hs
  · cases hs
def sop (P : Program) (gl : GL) (e : Operand → Option SV) (h : SH) (op : Op) : Alts :=
  match op with
  | .move x => oneO h (e x)
  | .assign x => oneO h (e x)
  | .pick c a b => match e c, e a, e b with
    | some (.a (.bool c)), some x, some y => spick c x y h
    | _, _, _ => []
  | .alloc t => oneH (salloc P t h)
  | .box t x => match e x with
    | some v => match sbox v h with
      | some (w, h') => one true w h'
      | none => []
    | none => []
  | .build t parts => match sparts e parts.toList with
    | some ps => oneO h (sbuild P t ps)
    | none => []
  | .buildSlice t len parts => match sparts e parts.toList with
    | some ps => oneH (sbuildSlice P t len ps h)
    | none => []
  | .load t x => match e x with
    | some p => oneO h (sload P gl h t p)
    | none => []
  | .store t a x => match e a, e x, szOf P t with
    | some p, some v, some n => match Nat.beq v.cells.length n, v.whole with
      | true, true => unitO (putCells h v.cells p)
      | _, _ => []
    | _, _, _ => []
  | .nilCheck x => match e x with
    | some v => match okNil v with
      | true => one true v h
      | false => []
    | none => []
  | .binOp op t x y _ => match e x, e y with
    | some a, some b => oneG h (sbin P op t x y a b)
    | _, _ => []
  | .unOp u _ x => match e x with
    | some v => oneO h (sun u v)
    | none => []
  | .convert s d x => match e x with
    | some v => oneH (sconv P s d v h)
    | none => []
  | .makeInterface t x => match e x, isIface P t with
    | some v, false => one true (.ifc t v) h
    | _, _ => []
  | .makeFunc (.func f) first cap => match sevs e first.toList, sevs e cap.toList with
    | some a, some b => one true (.fn f a b) h
    | _, _ => []
  | .makeMap _ none => one true (.map h.length) (h ++ [.map [] [] 0])
  | .makeSlice t l c => match e l, e c with
    | some a, some b => oneH (smakeSlice P t a b h)
    | _, _ => []
  | .slice t x lo hi mx => match e x, sbound e lo, sbound e hi, sbound e mx with
    | some v, some a, some b, some c => oneG h (sslice P t v a b c h)
    | _, _, _, _ => []
  | .fieldAddr s x f => match e x with
    | some v => oneO h (sfieldAddr P s v f h)
    | none => []
  | .field t x f => match e x with
    | some v => oneO h (sfield P t v f)
    | none => []
  | .indexAddr t x i => match e x, e i with
    | some a, some b => match sidx b with
      | some n => match sgIndex P gl t a n with
        | some r => oneG h (some r)
        | none => match smallArr P t a with
          | some (loc, off, lim, z, len) => idxAlts n loc off lim z h len 0
          | none => oneG h (sindexAddr P t a n h)
      | none => []
    | _, _ => []
  | .index t x i => match e x, e i with
    | some a, some b => match sidx b with
      | some n => oneG h (sindex P t a n)
      | none => []
    | _, _ => []
  | .lookup t mp k ok => match e mp, e k with
    | some a, some b => slookup P t a b ok h
    | _, _ => []
  | .mapUpdate t mp k v => match e mp, e k, e v with
    | some a, some b, some c => sput P t a b c h
    | _, _, _ => []
  | .insert t mp k v => match e mp, e k, e v with
    | some a, some b, some c => sput P t a b c h
    | _, _, _ => []
  | .typeAssert x _ t true => match e x with
    | some v => oneO h (sassert P t v)
    | none => []
  | .extract x i => match e x with
    | some (.tup l) => oneO h l[i]?
    | _ => []
  | .call c => match c.callee, sevs e c.args.toList with
    | .value f, some args => match e f with
      | some (.fn f first cap) => [(true, .call (.inl f) (first ++ args ++ cap))]
      | some (.yld loc) => [(true, .call (.inr loc) args)]
      | _ => []
    | .builtin b, some args => sbuiltin P b c.argTypes.toList args h
    | _, _ => []
  | .defer c => match c.callee, sevs e c.args.toList with
    | .value f, some args => match e f with
      | some (.fn f first cap) => [(true, .dfr f (first ++ args) cap)]
      | _ => []
    | _, _ => []
  | _ => []
theorem sop_sound (hr : RH X) (hg : RGl P gl X) (he : EvR X e m) {op : Op} {q : SR} (h : Hit (sop P gl e X.sh op) q) : ∃ rs, mop P m X.h op = some rs ∧ SRR X q rs := by
  unfold sop at h
  split at h
  · obtain ⟨v, h1, rfl⟩ := hit_O h; exact move_sound hr he h1
  · obtain ⟨v, h1, rfl⟩ := hit_O h; exact assign_sound hr he h1
  · split at h
    · rename_i h1 h2 h3; exact pick_sound hr he h1 h2 h3 h
    · cases h
  · obtain ⟨v, sh', h1, rfl⟩ := hit_H h; exact alloc_sound hr h1
  · split at h
    · rename_i v h1
      split at h
      · rename_i w h' h2; obtain ⟨_, rfl⟩ := hit_one h; exact box_sound hr he h1 h2
      · cases h
    · cases h
  · split at h
    · rename_i ps h1; obtain ⟨v, h2, rfl⟩ := hit_O h; exact build_sound hr he h1 h2
    · cases h
  · split at h
    · rename_i ps h1; obtain ⟨v, sh', h2, rfl⟩ := hit_H h; exact buildSlice_sound hr he h1 h2
    · cases h
  · split at h
    · rename_i p h1; obtain ⟨v, h2, rfl⟩ := hit_O h; exact load_sound hr hg he h1 h2
    · cases h
  · split at h
    · rename_i p v n h1 h2 h3
      split at h
      · rename_i h4 h5
        obtain ⟨sh', h6, rfl⟩ := hit_U h
        obtain ⟨xp, q1, q2⟩ := he _ _ h1
        obtain ⟨xv, q3, q4⟩ := he _ _ h2
        have hc := q4.wholeC h5
        obtain ⟨loc, off, ver, lim, h', rfl, q5, Y, q6, q7, q8⟩ := putCells_sound hr q2 hc h6
        refine ⟨.unit h', ?_, Y, q6, q7, q8⟩
        simp only [mop, q1, q3, h3]
        rw [if_pos (by rw [hc.length]; exact Nat_beq h4), q5]; rfl
      · cases h
    · cases h
  · split at h
    · rename_i v h1
      split at h
      · rename_i h2; obtain ⟨_, rfl⟩ := hit_one h; exact nilCheck_sound hr he h1 h2
      · cases h
    · cases h
  · split at h
    · rename_i a b h1 h2; obtain ⟨v, h3, rfl⟩ := hit_G h; exact bin_sound hr he h1 h2 h3
    · cases h
  · split at h
    · rename_i v h1; obtain ⟨v, h2, rfl⟩ := hit_O h; exact un_sound hr he h1 h2
    · cases h
  · split at h
    · rename_i v h1; obtain ⟨v, sh', h2, rfl⟩ := hit_H h; exact convert_sound hr he h1 h2
    · cases h
  · split at h
    · rename_i v h1 h2; obtain ⟨_, rfl⟩ := hit_one h; exact makeInterface_sound hr he h1 h2
    · cases h
  · split at h
    · rename_i a b h1 h2; obtain ⟨_, rfl⟩ := hit_one h; exact makeFunc_sound hr he h1 h2
    · cases h
  · obtain ⟨_, rfl⟩ := hit_one h; exact makeMap_sound hr
  · split at h
    · rename_i a b h1 h2; obtain ⟨v, sh', h3, rfl⟩ := hit_H h; exact makeSlice_sound hr he h1 h2 h3
    · cases h
  · split at h
    · rename_i v a b c h1 h2 h3 h4; obtain ⟨v, h5, rfl⟩ := hit_G h; exact slice_sound hr he h1 h2 h3 h4 h5
    · cases h
  · split at h
    · rename_i v h1; obtain ⟨v, h2, rfl⟩ := hit_O h; exact fieldAddr_sound hr he h1 h2
    · cases h
  · split at h
    · rename_i v h1; obtain ⟨v, h2, rfl⟩ := hit_O h; exact field_sound hr he h1 h2
    · cases h
  · split at h
    · rename_i a b h1 h2
      split at h
      · rename_i n h3
        split at h
        · rename_i r hr2; obtain ⟨v, h4, rfl⟩ := hit_G h; exact gindexAddr_sound hr hg he h1 h2 h3 (hr2.trans h4)
        · split at h
          · rename_i loc off lim z len hsm
            obtain ⟨i, hi, e1, rfl⟩ := idxAlts_hit _ _ h
            obtain ⟨rfl, el, hu, hz⟩ := smallArr_spec hsm
            subst e1
            refine indexAddr_sound hr he h1 h2 h3 ?_
            have hin : inb (i : Int) len = true := by simp [inb]; omega
            simp only [sindexAddr, hu, hz, hin, Int.toNat_natCast]
          · obtain ⟨v, h4, rfl⟩ := hit_G h; exact indexAddr_sound hr he h1 h2 h3 h4
      · cases h
    · cases h
  · split at h
    · rename_i a b h1 h2
      split at h
      · rename_i n h3; obtain ⟨v, h4, rfl⟩ := hit_G h; exact index_sound hr he h1 h2 h3 h4
      · cases h
    · cases h
  · split at h
    · rename_i a b h1 h2; exact lookup_sound hr he h1 h2 h
    · cases h
  · split at h
    · rename_i a b c h1 h2 h3
      obtain ⟨xa, q1, q2⟩ := he _ _ h1
      obtain ⟨xb, q3, q4⟩ := he _ _ h2
      obtain ⟨xc, q5, q6⟩ := he _ _ h3
      obtain ⟨h', sh', q7, rfl, Y, q8, q9, q10⟩ := sput_sound hr q2 q4 q6 h
      exact ⟨.unit h', by simp only [mop, q1, q3, q5, q7, ru], Y, q8, q9, q10⟩
    · cases h
  · split at h
    · rename_i a b c h1 h2 h3
      obtain ⟨xa, q1, q2⟩ := he _ _ h1
      obtain ⟨xb, q3, q4⟩ := he _ _ h2
      obtain ⟨xc, q5, q6⟩ := he _ _ h3
      obtain ⟨h', sh', q7, rfl, Y, q8, q9, q10⟩ := sput_sound hr q2 q4 q6 h
      exact ⟨.unit h', by simp only [mop, q1, q3, q5, q7, ru], Y, q8, q9, q10⟩
    · cases h
  · split at h
    · rename_i v h1; obtain ⟨v, h2, rfl⟩ := hit_O h; exact assert_sound hr he h1 h2
    · cases h
  · split at h
    · rename_i l h1; obtain ⟨v, h2, rfl⟩ := hit_O h; exact extract_sound hr he h1 h2
    · cases h
  · split at h
    · rename_i f args h1 h2
      obtain ⟨xs, q1, q2⟩ := sevs_sound he h2
      split at h
      · rename_i f' first cap h3
        obtain ⟨xf, q3, a', b', rfl, q4, q5⟩ := he _ _ h3
        rcases h with ⟨_, rfl⟩ | ⟨h, _⟩
        · exact ⟨.call (.f f') (a' ++ xs ++ b'), by simp only [mop, h1, q1, q3], rfl, (q4.append q2).append q5⟩
        · cases h
      · rename_i loc h3
        obtain ⟨xf, q3, mm, q4, rfl⟩ := he _ _ h3
        rcases h with ⟨_, rfl⟩ | ⟨h, _⟩
        · exact ⟨.call (.y mm) xs, by simp only [mop, h1, q1, q3], q4, q2⟩
        · cases h
      · cases h
    · rename_i b args h1 h2
      obtain ⟨xs, q1, q2⟩ := sevs_sound he h2
      obtain ⟨rs, q3, q4⟩ := builtin_sound hr q2 h
      exact ⟨rs, by simp only [mop, h1, q1, q3], q4⟩
    · cases h
  · split at h
    · rename_i f args h1 h2
      obtain ⟨xs, q1, q2⟩ := sevs_sound he h2
      split at h
      · rename_i f' first cap h3
        obtain ⟨xf, q3, a', b', rfl, q4, q5⟩ := he _ _ h3
        rcases h with ⟨_, rfl⟩ | ⟨h, _⟩
        · exact ⟨.dfr f' (a' ++ xs) b', by simp only [mop, h1, q1, q3], rfl, q4.append q2, q5⟩
        · cases h
      · cases h
    · cases h
  · cases h
end
end Go.Sx

/- The symbolic machine S: code. -/
set_option linter.unusedVariables false
set_option linter.unusedSimpArgs false
namespace Go.Sx
open Go Go.Gx Go.Mx

structure SS where
  env : List SV
  h : SH
inductive SX where
  | normal | ret | exit (id : Nat) | panic (v : SV)
inductive SC where
  | ret (v : SV) (h : SH) | pan (v : SV) (h : SH)
/-- What is known of a function. -/
abbrev CF := (R : Type) → List SV → SH → (SC → Option R) → Option R
abbrev CT := FuncId → Option CF
abbrev LF := (R : Type) → SS → (SX → SS → Option R) → Option R
/-- How code is to be run: a loop by what is known of it. -/
inductive Pl : Type 1 where
  | auto
  | two (a b : Pl)
  | one (a : Pl)
  | cal (i : Nat) (f : FuncId) (a rest : Pl)
  | by_ (g : LF)
def Pl.l : Pl → Pl
  | .two a _ => a
  | _ => .auto
def Pl.r : Pl → Pl
  | .two _ b => b
  | _ => .auto
def Pl.i : Pl → Pl
  | .one a => a
  | _ => .auto
def Pl.at : Pl → Nat → FuncId → Pl
  | .cal j g a rest, i, f => match Nat.beq j i, Nat.beq g f with
    | true, true => a
    | _, _ => rest.at i f
  | _, _, _ => .auto
def setS (env : List SV) (d : Option Nat) (v : SV) : Option (List SV) := match d with
  | some d => match env[d]? with
    | some _ => some (env.set d v)
    | none => none
  | none => some env
def alts {R : Type} (k : SR → Option R) : Alts → Option R
  | [] => none
  | (g, r) :: l => cond g (k r) (alts k l)
def sres (P : Program) (gl : GL) (env : List SV) (h : SH) : List ResultVar → Option (List SV)
  | [] => some []
  | .tmp t :: l => match env[t]?, sres P gl env h l with
    | some v, some vs => some (v :: vs)
    | _, _ => none
  | .cell a T :: l => match env[a]?, sres P gl env h l with
    | some p, some vs => match sload P gl h T p with
      | some v => some (v :: vs)
      | none => none
    | _, _ => none
def oneS : List SV → SV
  | [v] => v
  | vs => .tup vs
def gval (ops : Array Oper) (env : List SV) (j : Nat) : Option (Nat × Bool) := match ops[j]? with
  | some o => match o.dst with
    | some t => match env[t]? with
      | some (.a (.bool b)) => some (t, b)
      | _ => none
    | none => none
  | none => none
/-- The guard was skipped itself. -/
def isSkip : Option SV → Bool
  | some (.tup _) => true
  | _ => false
def gskip (ops : List Oper) (env : List SV) (j : Nat) : Bool := match ops[j]? with
  | some o => match o.dst with
    | some t => isSkip env[t]?
    | none => false
  | none => false
/-! Regions whose order is drawn: they are run in one order in which what reads comes as early as it may. -/
def freeOp : Op → Bool
  | .move _ | .assign _ | .pick .. | .build .. | .nilCheck _ | .binOp .. | .unOp .. | .makeInterface .. | .fieldAddr .. | .field .. | .indexAddr .. | .index .. | .extract .. => true
  | .makeFunc (.func _) _ _ => true
  | _ => false
def amask (P : Program) : List Oper → Nat → Nat
  | [], _ => 0
  | o :: l, i => match kindOf P o.op with
    | .act => (1 <<< i) ||| amask P l (i + 1)
    | _ => amask P l (i + 1)
def hmask (P : Program) : List Oper → Nat → Nat
  | [], _ => 0
  | o :: l, i => match kindOf P o.op with
    | .hole _ => (1 <<< i) ||| hmask P l (i + 1)
    | _ => hmask P l (i + 1)
/-- What comes behind operation i. -/
def afterM (i : Nat) : List (Option Nat × Nat) → Nat → Nat
  | [], _ => 0
  | (_, m) :: I, k => match bit m i with
    | true => (1 <<< k) ||| afterM i I (k + 1)
    | false => afterM i I (k + 1)
def subm (a b : Nat) : Bool := Nat.beq (a &&& b) a
/-- A register that operation i finds as the one order finds it. -/
def okT (i b t : Nat) : List (Option Nat × Nat) → Nat → Bool
  | [], _ => true
  | (some d, m) :: I, k => match Nat.beq d t with
    | true => (bit b k || bit m i) && okT i b t I (k + 1)
    | false => okT i b t I (k + 1)
  | (none, _) :: I, k => okT i b t I (k + 1)
def sevD (gl : GL) (I : List (Option Nat × Nat)) (env : List SV) (i b : Nat) : Operand → Option SV
  | .tmp t => match okT i b t I 0 with
    | true => env[t]?
    | false => none
  | o => sev gl env o
def okK (I : List (Option Nat × Nat)) (am hm D i b : Nat) : Bool :=
  subm b D && (!bit D i && (Nat.blt b (1 <<< i) && match bit am i with
    | true => subm (D &&& am) b && Nat.beq (D &&& am) (am &&& ((1 <<< i) - 1))
    | false => match bit hm i with
      | true => subm am (D ||| afterM i I 0)
      | false => subm (D &&& am) b))
/-- The next operation: one that is no act, if there is one. -/
def nextD (I : List (Option Nat × Nat)) (am hm D : Nat) (a : Bool) : List (Option Nat × Nat) → Nat → Option Nat
  | [], _ => none
  | (_, b) :: l, i => match okK I am hm D i b && (a || !bit am i) with
    | true => some i
    | false => nextD I am hm D a l (i + 1)
def permOf (I : List (Option Nat × Nat)) (am hm : Nat) : Nat → Nat → List Nat
  | 0, _ => []
  | n + 1, D => match nextD I am hm D false I 0 with
    | some i => i :: permOf I am hm n (D ||| (1 <<< i))
    | none => match nextD I am hm D true I 0 with
      | some i => i :: permOf I am hm n (D ||| (1 <<< i))
      | none => []
def gvalL (l : List Oper) (env : List SV) (j : Nat) : Option (Nat × Bool) := match l[j]? with
  | some o => match o.dst with
    | some t => match env[t]? with
      | some (.a (.bool b)) => some (t, b)
      | _ => none
    | none => none
  | none => none
/-- Values that say nothing of the heap. -/
def flatV : SV → Bool
  | .a (.int _ _) => true
  | .a (.str _) => true
  | .a .nils => true
  | .u8 _ => true
  | .isl _ _ => true
  | .cl _ _ => true
  | .nsl _ _ => true
  | _ => false
def numV : SV → Bool
  | .a (.int _ _) => true
  | .a (.str _) => true
  | .u8 _ => true
  | _ => false
/-- An operation that may come up at other heaps too: the block that is not to turn. -/
def racy (e : Operand → Option SV) (op : Op) : Option (Option Nat) := match freeOp op with
  | true => some none
  | false => match op with
    | .load _ x => match e x with
      | some (.ptr loc _ _) => some (some loc)
      | some (.eptr loc _ _ _) => some (some loc)
      | some (.iptr _ _ _) => some none
      | some (.gptr _ _ _) => some none
      | _ => none
    | .slice _ x _ _ _ => match e x with
      | some v => match flatV v with
        | true => some none
        | false => none
      | none => none
    | .convert _ _ x => match e x with
      | some v => match numV v with
        | true => some none
        | false => none
      | none => none
    | .call c => match c.callee, sevs e c.args.toList with
      | .builtin .len, some [v] => match flatV v with
        | true => some none
        | false => none
      | _, _ => none
    | _ => none
def SB.setMd : SB → Nat → SB
  | .cells l _, m => .cells l m
  | .seq u l k _, m => .seq u l k m
  | .map ks vs _, m => .map ks vs m
  | .kv u v l _, m => .kv u v l m
  | .gone, _ => .gone
def hasLoc (loc : Nat) : List (Nat × Nat) → Bool
  | [] => false
  | p :: l => Nat.beq p.2 loc || hasLoc loc l
/-- A block is shut for operation i. -/
def shutAt (h : SH) (i loc : Nat) (sl : List (Nat × Nat)) : Option (SH × List (Nat × Nat)) := match h[loc]? with
  | some b => match b.md with
    | 0 => some (h.set loc (b.setMd 1), (i, loc) :: sl)
    | _ => match hasLoc loc sl with
      | true => some (h, (i, loc) :: sl)
      | false => some (h, sl)
  | none => none
/-- What is still shut behind an act with m ahead of it. -/
def keepS (m : Nat) : List (Nat × Nat) → List (Nat × Nat)
  | [] => []
  | p :: l => match bit m p.1 with
    | true => keepS m l
    | false => p :: keepS m l
def open1 (h : SH) (loc : Nat) : SH := match h[loc]? with
  | some b => match b.md with
    | 1 => h.set loc (b.setMd 0)
    | _ => h
  | none => h
def openS (kept : List (Nat × Nat)) : List (Nat × Nat) → SH → SH
  | [], h => h
  | p :: l, h => match hasLoc p.2 kept with
    | true => openS kept l h
    | false => openS kept l (open1 h p.2)
/-- What was shut for a region is opened again. -/
def reopen : SH → SH → SH
  | [], [] => []
  | [], b :: h => (match b.md with | 1 => b.setMd 0 | _ => b) :: reopen [] h
  | b0 :: h0, b :: h => (match b0.md, b.md with | 0, 1 => b.setMd 0 | _, _ => b) :: reopen h0 h
  | _ :: _, [] => []
def raced (I : List (Option Nat × Nat)) (am i b : Nat) : Bool := !(subm (am &&& ((1 <<< i) - 1)) b && subm am (b ||| afterM i I 0))
section
variable (P : Program) (gl : GL) (ct : CT) {R : Type}
mutual
def scode : Nat → Pl → Code → SS → (SX → SS → Option R) → Option R
  | 0, _, _, _, _ => none
  | n + 1, pl, c, st, K => match c with
    | .skip => K .normal st
    | .label _ => K .normal st
    | .ret => K .ret st
    | .exit id => K (.exit id) st
    | .seq a b => scode n pl.l a st fun e st' => match e with
      | .normal => scode n pl.r b st' K
      | e => K e st'
    | .cond c a b => match sev gl st.env c with
      | some (.a (.bool t)) => cond t (scode n pl.l a st K) (scode n pl.r b st K)
      | _ => none
    | .block id c => scode n pl.i c st fun e st' => match e with
      | .exit i => match Nat.beq i id with
        | true => K .normal st'
        | false => K (.exit i) st'
      | e => K e st'
    | .loop c => match pl with
      | .by_ g => g R st K
      | pl => scode n pl.i c st fun e st' => match e with
        | .normal => scode n pl (.loop c) st' K
        | e => K e st'
    | .region _ ops false => sops n pl ops 0 ops.toList st K
    | .region _ ops true => match backOk ops.toList && dstOk (infos ops.toList []), holesOf P ops.toList with
      | true, some _ => sdr n pl ops.toList (infos ops.toList []) (amask P ops.toList 0) (hmask P ops.toList 0) 0 [] (permOf (infos ops.toList []) (amask P ops.toList 0) (hmask P ops.toList 0) ops.toList.length 0) st fun st' => K .normal ⟨st'.env, reopen st.h st'.h⟩
      | _, _ => none
    | _ => none
def sdr : Nat → Pl → List Oper → List (Option Nat × Nat) → Nat → Nat → Nat → List (Nat × Nat) → List Nat → SS → (SS → Option R) → Option R
  | 0, _, _, _, _, _, _, _, _, _, _ => none
  | n + 1, pl, l, I, am, hm, D, sl, p, st, K => match p with
    | [] => match Nat.beq D ((1 <<< l.length) - 1) with
      | true => K st
      | false => none
    | i :: p => match l[i]?, I[i]? with
      | some o, some (_, b) => match okK I am hm D i b with
        | false => none
        | true =>
          let fin := fun (sl : List (Nat × Nat)) (env : List SV) (v : SV) (h : SH) => match setS env o.dst v with
            | some env => sdr n pl l I am hm (D ||| (1 <<< i)) sl p ⟨env, h⟩ K
            | none => none
          let go := fun (st : SS) => match kindOf P o.op with
            | .hole t => match szero P t with
              | some z => match sbox z st.h with
                | some (v, h) => fin sl st.env v h
                | none => none
              | none => none
            | .quiet => alts (fun r => match r with
              | .val v h => match raced I am i b with
                | false => fin sl st.env v h
                | true => match racy (sevD gl I st.env i b) o.op with
                  | some none => fin sl st.env v h
                  | some (some loc) => match shutAt h i loc sl with
                    | some (h, sl) => fin sl st.env v h
                    | none => none
                  | none => none
              | _ => none) (sop P gl (sevD gl I st.env i b) st.h o.op)
            | .act => alts (fun r => match r with
              | .val v h => fin (keepS b sl) st.env v h
              | .unit h => fin (keepS b sl) st.env (.tup []) h
              | .dfr f args cap => none
              | .call (.inl f) args => scall n (pl.at i f) f args (openS (keepS b sl) sl st.h) fun r => match r with
                | .ret v h => fin (keepS b sl) st.env v h
                | .pan v h => none
              | .call (.inr _) _ => none) (sop P gl (sevD gl I st.env i b) (openS (keepS b sl) sl st.h) o.op)
          match o.guard with
          | none => go st
          | some (j, w) => match bit b j, bit hm i with
            | true, false => match gvalL l st.env j with
              | some (t, c) => cond c
                (match w with | true => go ⟨st.env.set t (.a (.bool true)), st.h⟩ | false => fin sl (st.env.set t (.a (.bool true))) (.tup []) st.h)
                (match w with | true => fin sl (st.env.set t (.a (.bool false))) (.tup []) st.h | false => go ⟨st.env.set t (.a (.bool false)), st.h⟩)
              | none => match gskip l st.env j with
                | true => fin sl st.env (.tup []) st.h
                | false => none
            | _, _ => none
      | _, _ => none
def sops : Nat → Pl → Array Oper → Nat → List Oper → SS → (SX → SS → Option R) → Option R
  | 0, _, _, _, _, _, _ => none
  | n + 1, pl, ops, i, l, st, K => match l with
    | [] => K .normal st
    | o :: l =>
      let go := fun (st : SS) => match panicOp o.op with
        | some x => match sev gl st.env x with
          | some (.ifc t v) => K (.panic (.ifc t v)) st
          | _ => none
        | none => alts (fun r => match r with
          | .val v h => match setS st.env o.dst v with
            | some env => sops n pl ops (i + 1) l ⟨env, h⟩ K
            | none => none
          | .unit h => match setS st.env o.dst (.tup []) with
            | some env => sops n pl ops (i + 1) l ⟨env, h⟩ K
            | none => none
          | .dfr f args cap => none
          | .call (.inl f) args => scall n (pl.at i f) f args st.h fun r => match r with
            | .ret v h => match setS st.env o.dst v with
              | some env => sops n pl ops (i + 1) l ⟨env, h⟩ K
              | none => none
            | .pan v h => K (.panic v) ⟨st.env, h⟩
          | .call (.inr _) _ => none) (sop P gl (sev gl st.env) st.h o.op)
      let off := fun (st : SS) => match setS st.env o.dst (.tup []) with
        | some env => sops n pl ops (i + 1) l ⟨env, st.h⟩ K
        | none => none
      match o.guard with
      | none => go st
      | some (j, w) => match gval ops st.env j with
        | some (t, b) => cond b
          (match w with | true => go ⟨st.env.set t (.a (.bool true)), st.h⟩ | false => off ⟨st.env.set t (.a (.bool true)), st.h⟩)
          (match w with | true => off ⟨st.env.set t (.a (.bool false)), st.h⟩ | false => go ⟨st.env.set t (.a (.bool false)), st.h⟩)
        | none => match gskip ops.toList st.env j with
          | true => off st
          | false => none
def scall : Nat → Pl → FuncId → List SV → SH → (SC → Option R) → Option R
  | 0, _, _, _, _, _ => none
  | n + 1, pl, f, args, h, κ => match ct f with
    | some g => g R args h κ
    | none => match P.funcs[f]? with
      | some fn => match fn.body with
        | some c => match Nat.ble args.length fn.ntmps with
          | true => scode n pl c ⟨args ++ List.replicate (fn.ntmps - args.length) (.tup []), h⟩ fun e st => match e with
            | .panic v => κ (.pan v st.h)
            | .exit _ => none
            | _ => match sres P gl st.env st.h fn.results.toList with
              | some vs => κ (.ret (oneS vs) st.h)
              | none => none
          | false => none
        | none => none
      | none => none
end
end

/-! Soundness. -/
structure StR (X : Gst) (st : SS) (ms : St) : Prop where
  env : RVs X st.env ms.env.toL
  sh : X.sh = st.h
  h : X.h = ms.h
  dl : ms.dl = []
  rnd : ms.rnd = none
def ExR (X : Gst) : SX → Ex → Prop
  | .normal, .normal => True
  | .ret, .ret => True
  | .exit i, .exit j => i = j
  | .panic v, .panic x => RV X v x
  | _, _ => False
def CRR (X : Gst) : SC → CR → Prop
  | .ret v sh, .ret x h => X.sh = sh ∧ X.h = h ∧ RV X v x
  | .pan v sh, .pan x h => X.sh = sh ∧ X.h = h ∧ RV X v x
  | _, _ => False
/-- From some fuel on. -/
def Ev (p : Nat → Prop) : Prop := ∃ n0, ∀ n, n0 ≤ n → p n
theorem Ev.mono {p q : Nat → Prop} (h : Ev p) (k : ∀ n, p n → q n) : Ev q := let ⟨n0, h0⟩ := h; ⟨n0, fun n hn => k n (h0 n hn)⟩
theorem Ev.and {p q : Nat → Prop} (h : Ev p) (k : Ev q) : Ev fun n => p n ∧ q n := let ⟨a, ha⟩ := h; let ⟨b, hb⟩ := k; ⟨max a b, fun n hn => ⟨ha n (by omega), hb n (by omega)⟩⟩
theorem Ev.succ {p : Nat → Prop} (h : Ev fun n => p (n + 1)) : Ev p := let ⟨a, ha⟩ := h; ⟨a + 1, fun n hn => by obtain ⟨k, rfl⟩ : ∃ k, n = k + 1 := ⟨n - 1, by omega⟩; exact ha k (by omega)⟩
theorem Ev.all {p : Nat → Prop} (h : ∀ n, p n) : Ev p := ⟨0, fun n _ => h n⟩
section
variable (P : Program) (gl : GL) (ct : CT) (hk : Hooks)
/-- A piece of S's run is a piece of M's. -/
def SndC (c : Code) (f : LF) : Prop := ∀ (R : Type) (st : SS) (K : SX → SS → Option R) (r : R) (X : Gst) (ms : St), f R st K = some r → StR X st ms → RH X → RGl P gl X →
  ∃ e st' Y me ms', K e st' = some r ∧ Stp X Y ∧ StR Y st' ms' ∧ ExR Y e me ∧ Ev fun n => mrun P hk n c ms = some (me, ms')
def SndF (f : FuncId) (g : CF) : Prop := ∀ (R : Type) (args : List SV) (κ : SC → Option R) (r : R) (X : Gst) (margs : List AV), g R args X.sh κ = some r → RVs X args margs → RH X → RGl P gl X →
  ∃ q Y mq, κ q = some r ∧ Stp X Y ∧ CRR Y q mq ∧ Ev fun n => mcall P hk (mrun P hk n) (.f f) margs X.h = some mq
def PlOK : Pl → Code → Prop
  | .auto, _ => True
  | .two a b, c => match c with
    | .seq x y => PlOK a x ∧ PlOK b y
    | .cond _ x y => PlOK a x ∧ PlOK b y
    | _ => False
  | .one a, c => match c with
    | .block _ x => PlOK a x
    | .loop x => PlOK a x
    | _ => False
  | .cal _ f a rest, c => (∀ fn b, P.funcs[f]? = some fn → fn.body = some b → PlOK a b) ∧ PlOK rest c
  | .by_ g, c => match c with
    | .loop x => SndC P gl hk (.loop x) g
    | _ => False
structure CtOK : Prop where
  calls : ∀ f g, ct f = some g → SndF P gl hk f g
  hooks : ∀ f g, hk f = some g → ct f = none → (P.funcs[f]?).bind (·.body) = none
end
theorem alts_hit {R : Type} {k : SR → Option R} {l : Alts} {r : R} (h : alts k l = some r) : ∃ q, Hit l q ∧ k q = some r := by
  induction l with
  | nil => cases h
  | cons p l ih =>
    obtain ⟨g, q⟩ := p
    cases g with
    | true => exact ⟨q, .inl ⟨rfl, rfl⟩, h⟩
    | false => obtain ⟨q', h1, h2⟩ := ih h; exact ⟨q', .inr ⟨rfl, h1⟩, h2⟩
theorem setS_sound {X : Gst} {env env' : List SV} {me : Arr AV} {d : Option Nat} {v : SV} {x : AV} (he : RVs X env me.toL) (hv : RV X v x) (h : setS env d v = some env') : ∃ me', setT me d x = some me' ∧ RVs X env' me'.toL := by
  cases d with
  | none => cases h; exact ⟨me, rfl, he⟩
  | some d =>
    simp only [setS] at h
    split at h
    · rename_i w hw
      cases h
      have hd := (List.getElem?_eq_some_iff.1 hw).1
      have hl : me.length = env.length := by rw [← Arr.toL_length, he.length]
      refine ⟨me.set d x, by simp only [setT]; rw [if_pos (by omega)], ?_⟩
      have : (me.set d x).toL = me.toL.set d x := by
        refine List.ext_getElem? fun j => ?_
        rw [Arr.get_toL, Arr.get_set, List.getElem?_set, Arr.get_toL, Arr.toL_length]
      rw [this]
      exact he.set d hv
    · cases h
theorem EvR.of {P : Program} {gl : GL} {X : Gst} {env : List SV} {me : Arr AV} (he : RVs X env me.toL) (hg : RGl P gl X) : EvR X (sev gl env) (mev P me X.h) := fun o v h => sev_sound he hg h
theorem sres_sound {P : Program} {gl : GL} {X : Gst} {env : List SV} {me : Arr AV} (hr : RH X) (he : RVs X env me.toL) (hg : RGl P gl X) {l : List ResultVar} {vs : List SV} (h : sres P gl env X.sh l = some vs) : ∃ xs, mres P me X.h l = some xs ∧ RVs X vs xs := by
  induction l generalizing vs with
  | nil => cases h; exact ⟨[], rfl, rfl⟩
  | cons a l ih =>
    cases a with
    | tmp t =>
      simp only [sres] at h
      split at h
      · rename_i v vs' h1 h2
        cases h
        obtain ⟨x, h3, h4⟩ := he.get h1
        obtain ⟨xs, h5, h6⟩ := ih h2
        exact ⟨x :: xs, by simp only [mres, show me[t]? = some x from Arr.get_toL.symm.trans h3, h5], x, xs, rfl, h4, h6⟩
      · cases h
    | cell a T =>
      simp only [sres] at h
      split at h
      · rename_i p vs' h1 h2
        split at h
        · rename_i v hv
          cases h
          obtain ⟨x, h3, h4⟩ := he.get h1
          obtain ⟨xs, h5, h6⟩ := ih h2
          have h3 : me[a]? = some x := Arr.get_toL.symm.trans h3
          obtain ⟨loc, off, ver, lim, rfl, y, hy, ⟨n, cs, q1, q2, q3, rfl⟩ | ⟨q1, q3⟩⟩ := sload_sound hr hg h4 hv
          · exact ⟨.agg cs :: xs, by simp only [mres, h3, h5, q1, q2, q3], _, _, rfl, hy, h6⟩
          · exact ⟨y :: xs, by simp only [mres, h3, h5, q1, q3], _, _, rfl, hy, h6⟩
        · cases h
      · cases h
theorem oneS_sound {X : Gst} {vs : List SV} {xs : List AV} (h : RVs X vs xs) : RV X (oneS vs) (oneAV xs) := by
  match vs, xs, h with
  | [], _, rfl => exact ⟨[], rfl, rfl⟩
  | [v], _, ⟨x, _, rfl, h1, rfl⟩ => exact h1
  | v :: w :: vs, _, ⟨x, _, rfl, h1, y, xs, rfl, h2⟩ => exact ⟨_, rfl, x, _, rfl, h1, y, xs, rfl, h2⟩
end Go.Sx

