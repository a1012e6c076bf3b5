/- What Go's data read as; what stays as it was. -/
import Derived.Test.YtfkgbpkgggaphaaGreatDoorGxA
namespace Go.Gx
open Go

/-- w' is w with new blocks, and with writes to the blocks of K alone. -/
structure Keep (K : List Nat) (w w' : World) : Prop where
  os : w'.os = w.os
  tape : w'.tape = w.tape
  output : w'.output = w.output
  size : w.heap.size ≤ w'.heap.size
  block : ∀ b, b < w.heap.size → b ∉ K → w'.heap[b]? = w.heap[b]?

theorem Keep.refl (K : List Nat) (w : World) : Keep K w w := ⟨rfl, rfl, rfl, Nat.le_refl _, fun _ _ _ => rfl⟩
theorem Keep.trans {K : List Nat} {a b c : World} (h : Keep K a b) (k : Keep K b c) : Keep K a c :=
  ⟨k.os.trans h.os, k.tape.trans h.tape, k.output.trans h.output, Nat.le_trans h.size k.size,
   fun i hi hk => (k.block i (Nat.lt_of_lt_of_le hi h.size) hk).trans (h.block i hi hk)⟩
theorem Keep.mono {K K' : List Nat} {w w' : World} (h : Keep K w w') (hK : ∀ b, b ∈ K → b ∈ K') : Keep K' w w' :=
  ⟨h.os, h.tape, h.output, h.size, fun b hb hn => h.block b hb fun e => hn (hK b e)⟩
/-- Blocks that are new to w0 may be left out. -/
theorem Keep.drop {K K' : List Nat} {w0 w : World} (h : Keep K w0 w) (hK : ∀ b, b ∈ K → b ∈ K' ∨ w0.heap.size ≤ b) : Keep K' w0 w :=
  ⟨h.os, h.tape, h.output, h.size, fun b hb hn => h.block b hb fun e => (hK b e).elim hn (fun h => by omega)⟩
theorem Keep.alloc (K : List Nat) (w : World) (o : Obj) : Keep K w (w.alloc o) :=
  ⟨rfl, rfl, rfl, by simp, fun b hb _ => heap_alloc_old w o b hb⟩
theorem Keep.drew (K : List Nat) (w : World) : Keep K w w.drew := ⟨rfl, rfl, rfl, Nat.le_refl _, fun _ _ _ => rfl⟩
theorem Keep.drewN (K : List Nat) (w : World) (k : Nat) : Keep K w { w with drawn := w.drawn + k } := ⟨rfl, rfl, rfl, Nat.le_refl _, fun _ _ _ => rfl⟩

/-- How data of a type read in memory: outside the blocks of O. -/
structure Rp (τ : Type) where
  sz : Nat
  rel : List Nat → World → List Value → τ → Prop
  len : ∀ {O w cs x}, rel O w cs x → cs.length = sz
  one : ∀ {O w cs x}, rel O w cs x → ∀ u ∈ cs, u.oneCell' = true
  mono : ∀ {O O' : List Nat} {w w' : World} {cs x}, rel O w cs x → (∀ b, b ∈ O' → b < w.heap.size → b ∈ O) →
    (∀ b, b < w.heap.size → b ∉ O → w'.heap[b]? = w.heap[b]?) → w.heap.size ≤ w'.heap.size → rel O' w' cs x

theorem Rp.keep {τ : Type} (r : Rp τ) {O : List Nat} {w w' : World} {cs : List Value} {x : τ} (h : r.rel O w cs x) (k : Keep O w w') : r.rel O w' cs x :=
  r.mono h (fun _ h _ => h) k.block k.size
theorem Rp.fewer {τ : Type} (r : Rp τ) {O O' : List Nat} {w : World} {cs : List Value} {x : τ} (h : r.rel O w cs x) (hO : ∀ b, b ∈ O' → b < w.heap.size → b ∈ O) : r.rel O' w cs x :=
  r.mono h hO (fun _ _ _ => rfl) (Nat.le_refl _)

def vstr (l : List UInt8) : Value := .string ⟨l.toArray⟩

/-- A type whose values lie in no memory. -/
def Rp.flat {τ : Type} (f : τ → Value) (h1 : ∀ x, (f x).oneCell' = true) : Rp τ where
  sz := 1
  rel _ _ cs x := cs = [f x]
  len h := by subst h; rfl
  one h u hu := by subst h; simp at hu; subst hu; exact h1 _
  mono h _ _ _ := h

def rInt (k : IntKind) : Rp Int := .flat (fun x => .int k x) fun _ => rfl
def rU8 : Rp UInt8 := .flat (fun x => .int .u8 x.toNat) fun _ => rfl
def rBool : Rp Bool := .flat .bool fun _ => rfl
def rStr : Rp (List UInt8) := .flat vstr fun _ => rfl

/-- Cells that read as a list of elements. -/
inductive RelList {τ : Type} (r : Rp τ) (O : List Nat) (w : World) : List Value → List τ → Prop where
  | nil : RelList r O w [] []
  | cons {c rest : List Value} {x : τ} {l : List τ} (h : r.rel O w c x) (t : RelList r O w rest l) : RelList r O w (c ++ rest) (x :: l)

section
variable {τ : Type} {r : Rp τ} {O O' : List Nat} {w w' : World}
theorem RelList.mono {cs : List Value} {l : List τ} (h : RelList r O w cs l) (hO : ∀ b, b ∈ O' → b < w.heap.size → b ∈ O)
    (hb : ∀ b, b < w.heap.size → b ∉ O → w'.heap[b]? = w.heap[b]?) (hs : w.heap.size ≤ w'.heap.size) : RelList r O' w' cs l := by
  induction h with
  | nil => exact .nil
  | cons h _ ih => exact .cons (r.mono h hO hb hs) ih
theorem RelList.length {cs : List Value} {l : List τ} (h : RelList r O w cs l) : cs.length = l.length * r.sz := by
  induction h with
  | nil => simp
  | cons h _ ih => simp [r.len h, ih, Nat.add_mul, Nat.add_comm]
theorem RelList.one {cs : List Value} {l : List τ} (h : RelList r O w cs l) : ∀ u ∈ cs, u.oneCell' = true := by
  induction h with
  | nil => simp
  | cons h _ ih =>
    intro u hu
    rcases List.mem_append.1 hu with hu | hu
    · exact r.one h u hu
    · exact ih u hu
theorem RelList.append {cs cs' : List Value} {l l' : List τ} (h : RelList r O w cs l) (h' : RelList r O w cs' l') : RelList r O w (cs ++ cs') (l ++ l') := by
  induction h with
  | nil => exact h'
  | cons h _ ih => rw [List.append_assoc, List.cons_append]; exact .cons h ih
theorem RelList.single {c : List Value} {x : τ} (h : r.rel O w c x) : RelList r O w c [x] := by
  have := RelList.cons h (.nil (r := r) (O := O) (w := w)); rwa [List.append_nil] at this
theorem RelList.take {cs : List Value} {l : List τ} (h : RelList r O w cs l) : ∀ k, RelList r O w (cs.take (k * r.sz)) (l.take k) := by
  induction h with
  | nil => intro k; simp; exact .nil
  | @cons c rest x l h t ih =>
    intro k
    cases k with
    | zero => simp; exact .nil
    | succ k =>
      have hc := r.len h
      rw [List.take_succ_cons, show (k + 1) * r.sz = c.length + k * r.sz from by rw [hc, Nat.add_mul]; omega, List.take_length_add_append]
      exact .cons h (ih k)
theorem RelList.drop {cs : List Value} {l : List τ} (h : RelList r O w cs l) : ∀ k, RelList r O w (cs.drop (k * r.sz)) (l.drop k) := by
  induction h with
  | nil => intro k; simp; exact .nil
  | @cons c rest x l h t ih =>
    intro k
    cases k with
    | zero => simp; exact .cons h t
    | succ k =>
      have hc := r.len h
      rw [List.drop_succ_cons, show (k + 1) * r.sz = c.length + k * r.sz from by rw [hc, Nat.add_mul]; omega, List.drop_length_add_append]
      exact ih k
/-- The cells of one element. -/
theorem RelList.get {cs : List Value} {l : List τ} (h : RelList r O w cs l) : ∀ {i : Nat} {x : τ}, l[i]? = some x →
    ∃ c, r.rel O w c x ∧ ∀ j, j < r.sz → cs[i * r.sz + j]? = c[j]? := by
  induction h with
  | nil => intro i x h; simp at h
  | @cons c rest y l h t ih =>
    intro i x hx
    have hc := r.len h
    cases i with
    | zero =>
      simp at hx; subst hx
      exact ⟨c, h, fun j hj => by rw [Nat.zero_mul, Nat.zero_add, List.getElem?_append_left (by omega)]⟩
    | succ i =>
      obtain ⟨c', h', hj⟩ := ih (i := i) (by simpa using hx)
      refine ⟨c', h', fun j hjs => ?_⟩
      rw [← hj j hjs, List.getElem?_append_right (by rw [hc, Nat.add_mul]; omega)]
      congr 1
      rw [hc, Nat.add_mul]; omega
end

/-- A slice that is only read. -/
def Rp.sl {τ : Type} (r : Rp τ) : Rp (List τ) where
  sz := 1
  rel O w cs l := ∃ a cap xs, cs = [.slice a l.length cap] ∧ l.length ≤ cap ∧ RelList r O w xs l ∧
    (l = [] ∨ ∃ b off, a = some ⟨b, off, none⟩ ∧ b < w.heap.size ∧ b ∉ O ∧ ∀ j u, xs[j]? = some u → w.cell? ⟨b, off + j, none⟩ = some u)
  len := by rintro O w cs x ⟨a, cap, xs, rfl, _⟩; rfl
  one := by rintro O w cs x ⟨a, cap, xs, rfl, _⟩ u hu; simp at hu; subst hu; rfl
  mono := by
    rintro O O' w w' cs x ⟨a, cap, xs, rfl, hc, hr, h⟩ hO hb hs
    refine ⟨a, cap, xs, rfl, hc, hr.mono hO hb hs, ?_⟩
    rcases h with h | ⟨b, off, rfl, h1, h2, h3⟩
    · exact .inl h
    · refine .inr ⟨b, off, rfl, Nat.lt_of_lt_of_le h1 hs, fun e => h2 (hO b e h1), fun j u hu => ?_⟩
      have := h3 j u hu
      unfold World.cell? at this ⊢
      rw [hb b h1 h2]; exact this

/-- Two parts beside each other. -/
def Rp.pair {α β : Type} (r : Rp α) (s : Rp β) : Rp (α × β) where
  sz := r.sz + s.sz
  rel O w cs x := ∃ c d, cs = c ++ d ∧ r.rel O w c x.1 ∧ s.rel O w d x.2
  len := by rintro O w cs x ⟨c, d, rfl, h1, h2⟩; simp [r.len h1, s.len h2]
  one := by
    rintro O w cs x ⟨c, d, rfl, h1, h2⟩ u hu
    rcases List.mem_append.1 hu with hu | hu
    · exact r.one h1 u hu
    · exact s.one h2 u hu
  mono := by rintro O O' w w' cs x ⟨c, d, rfl, h1, h2⟩ hO hb hs; exact ⟨c, d, rfl, r.mono h1 hO hb hs, s.mono h2 hO hb hs⟩

/-- The same cells, seen as another type. -/
def Rp.via {α β : Type} (r : Rp α) (f : β → α) : Rp β where
  sz := r.sz
  rel O w cs x := r.rel O w cs (f x)
  len := r.len
  one := r.one
  mono := r.mono

theorem sl_nil {τ : Type} (r : Rp τ) (O : List Nat) (w : World) : r.sl.rel O w [.slice none 0 0] [] := ⟨none, 0, [], rfl, by simp, .nil, .inl rfl⟩
end Go.Gx
