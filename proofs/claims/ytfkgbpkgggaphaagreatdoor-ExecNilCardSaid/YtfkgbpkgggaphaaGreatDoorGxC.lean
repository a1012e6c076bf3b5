/- The facts that a walk carries. -/
import Derived.Test.YtfkgbpkgggaphaaGreatDoorGxB
namespace Go.Gx
open Go

inductive Fact : Type 1 where
  | imm {τ : Type} (r : Rp τ) (cs : List Value) (x : τ)
  | elem {τ : Type} (r : Rp τ) (a : Addr) (x : τ)
  | box (b : Nat) (cells : List Value) (T : TypeId)
  | row {τ : Type} (r : Rp τ) (T : TypeId) (v : Value) (l : List τ)
  | obj (b : Nat) (φ : Obj → Prop)

def Fact.own : Fact → List Nat
  | .box b _ _ => [b]
  | .row _ _ v _ => v.ownBlock.toList
  | .obj b _ => [b]
  | _ => []

/-- A row of the call's own that may be appended to. -/
def OwnRow {τ : Type} (r : Rp τ) (T : TypeId) (O : List Nat) (w : World) (v : Value) (l : List τ) : Prop :=
  ∃ xs, RelList r O w xs l ∧ ((v = .slice none 0 0 ∧ l = []) ∨
    ∃ g cap cur fr, v = .slice (some ⟨g, 0, none⟩) l.length cap ∧ w.heap[g]? = some (.cells cur T fr) ∧ l.length ≤ cap ∧ cap ≤ maxLen ∧ cur.size = cap * r.sz ∧
      cur.toList.take (l.length * r.sz) = xs ∧ (∀ j, j < cur.size → ¬ (fr.1 ≤ j ∧ j < fr.2)))

def Fact.holds (O : List Nat) (w : World) : Fact → Prop
  | .imm r cs x => r.rel O w cs x
  | .elem r a x => ∃ c, r.rel O w c x ∧ a.block < w.heap.size ∧ a.block ∉ O ∧ a.spot = none ∧ ∀ j, j < r.sz → w.cell? ⟨a.block, a.off + j, none⟩ = c[j]?
  | .box b cells T => w.heap[b]? = some (.cells cells.toArray T (0, 0))
  | .row r T v l => OwnRow r T O w v l
  | .obj b φ => ∃ o, w.heap[b]? = some o ∧ φ o

theorem Fact.own_lt {O : List Nat} {w : World} {f : Fact} (h : f.holds O w) : ∀ b ∈ f.own, b < w.heap.size := by
  intro b hb
  cases f with
  | imm => simp [Fact.own] at hb
  | elem => simp [Fact.own] at hb
  | box b' cells T =>
    simp [Fact.own] at hb; subst hb
    exact (Array.getElem?_eq_some_iff.1 h).1
  | row r T v l =>
    obtain ⟨xs, _, h | ⟨g, cap, cur, fr, rfl, hg, _⟩⟩ := h
    · obtain ⟨rfl, _⟩ := h; simp [Fact.own, Value.ownBlock] at hb
    · simp [Fact.own, Value.ownBlock] at hb; subst hb
      exact (Array.getElem?_eq_some_iff.1 hg).1
  | obj b' φ =>
    simp [Fact.own] at hb; subst hb
    obtain ⟨o, h, _⟩ := h
    exact (Array.getElem?_eq_some_iff.1 h).1

theorem Fact.mono {O O' : List Nat} {w w' : World} {f : Fact} (h : f.holds O w) (hO : ∀ b, b ∈ O' → b < w.heap.size → b ∈ O)
    (hb : ∀ b, b < w.heap.size → b ∉ O → w'.heap[b]? = w.heap[b]?) (hs : w.heap.size ≤ w'.heap.size) (hown : ∀ b ∈ f.own, w'.heap[b]? = w.heap[b]?) : f.holds O' w' := by
  cases f with
  | imm r cs x => exact r.mono h hO hb hs
  | elem r a x =>
    obtain ⟨c, h1, h2, h3, h4, h5⟩ := h
    refine ⟨c, r.mono h1 hO hb hs, Nat.lt_of_lt_of_le h2 hs, fun e => h3 (hO _ e h2), h4, fun j hj => ?_⟩
    rw [← h5 j hj]; unfold World.cell?; rw [hb _ h2 h3]
  | box b cells T =>
    show w'.heap[b]? = _
    rw [hown b (by simp [Fact.own])]; exact h
  | row r T v l =>
    obtain ⟨xs, hr, h⟩ := h
    refine ⟨xs, hr.mono hO hb hs, ?_⟩
    rcases h with h | ⟨g, cap, cur, fr, rfl, hg, rest⟩
    · exact .inl h
    · exact .inr ⟨g, cap, cur, fr, rfl, by rw [hown g (by simp [Fact.own, Value.ownBlock])]; exact hg, rest⟩
  | obj b φ =>
    obtain ⟨o, h, hφ⟩ := h
    exact ⟨o, by rw [hown b (by simp [Fact.own])]; exact h, hφ⟩

/-- What a walk that began in w0 knows in w: O: the blocks that may be written; K: those of them that were there at the start. -/
structure Ctx (O0 K : List Nat) (w0 : World) (O : List Nat) (w : World) (L : List Fact) : Prop where
  sub : ∀ b, b ∈ O0 → b ∈ O
  lt : ∀ b, b ∈ O → b < w.heap.size
  keep : Keep K w0 w
  nodup : (L.flatMap Fact.own).Nodup
  own : ∀ b, b ∈ L.flatMap Fact.own → b ∈ O ∧ (b ∈ K ∨ w0.heap.size ≤ b)
  facts : ∀ f, f ∈ L → f.holds O w

section
variable {O0 K O : List Nat} {w0 w w' : World} {L : List Fact}

theorem Ctx.at {i : Nat} {f : Fact} (h : Ctx O0 K w0 O w L) (hi : L[i]? = some f) : f.holds O w := h.facts f (List.mem_of_getElem? hi)

theorem Ctx.start (hO : ∀ b, b ∈ O0 → b < w.heap.size) : Ctx O0 [] w O0 w [] :=
  ⟨fun _ h => h, hO, Keep.refl _ _, by simp, by simp, by simp⟩

/-- Behind a step that turns no old block. -/
theorem Ctx.call (h : Ctx O0 K w0 O w L) (k : Keep [] w w') : Ctx O0 K w0 O w' L :=
  ⟨h.sub, fun b hb => Nat.lt_of_lt_of_le (h.lt b hb) k.size, h.keep.trans (k.mono (by simp)), h.nodup, h.own, fun f hf =>
    Fact.mono (h.facts f hf) (fun _ h _ => h) (fun b hb _ => k.block b hb (by simp)) k.size (fun b hb => k.block b (Fact.own_lt (h.facts f hf) b hb) (by simp))⟩

theorem Ctx.cons (h : Ctx O0 K w0 O w L) {f : Fact} (hf : f.holds O w) (ho : f.own = []) : Ctx O0 K w0 O w (f :: L) :=
  ⟨h.sub, h.lt, h.keep, by simpa [ho] using h.nodup, by intro b hb; simp [ho] at hb; exact h.own b (by simpa using hb), by
    intro g hg; rcases List.mem_cons.1 hg with rfl | hg
    · exact hf
    · exact h.facts g hg⟩

theorem Ctx.imm (h : Ctx O0 K w0 O w L) {τ : Type} {r : Rp τ} {cs : List Value} {x : τ} (hf : r.rel O w cs x) : Ctx O0 K w0 O w (.imm r cs x :: L) := h.cons hf rfl

theorem Ctx.sublist {L' : List Fact} (h : Ctx O0 K w0 O w L) (hs : L'.Sublist L) : Ctx O0 K w0 O w L' := by
  have h1 : (L'.flatMap Fact.own).Sublist (L.flatMap Fact.own) := by
    induction hs with
    | slnil => simp
    | cons a _ ih => simp only [List.flatMap_cons]; exact (ih ⟨h.sub, h.lt, h.keep, (List.nodup_append.1 (by simpa using h.nodup)).2.1, fun b hb => h.own b (by simp only [List.flatMap_cons]; exact List.mem_append_right _ hb), fun f hf => h.facts f (List.mem_cons_of_mem _ hf)⟩).trans (List.sublist_append_right _ _)
    | cons_cons a _ ih => simp only [List.flatMap_cons]; exact List.Sublist.append (List.Sublist.refl _) (ih ⟨h.sub, h.lt, h.keep, (List.nodup_append.1 (by simpa using h.nodup)).2.1, fun b hb => h.own b (by simp only [List.flatMap_cons]; exact List.mem_append_right _ hb), fun f hf => h.facts f (List.mem_cons_of_mem _ hf)⟩)
  exact ⟨h.sub, h.lt, h.keep, h.nodup.sublist h1, fun b hb => h.own b (h1.subset hb), fun f hf => h.facts f (hs.subset hf)⟩

/-- A new block that is the call's own: a variable. -/
theorem Ctx.box (h : Ctx O0 K w0 O w L) (cells : List Value) (T : TypeId) : Ctx O0 K w0 (w.heap.size :: O) (w.alloc (.cells cells.toArray T)) (.box w.heap.size cells T :: L) := by
  refine ⟨fun b hb => List.mem_cons_of_mem _ (h.sub b hb), ?_, h.keep.trans (Keep.alloc _ _ _), ?_, ?_, ?_⟩
  · intro b hb
    rcases List.mem_cons.1 hb with rfl | hb
    · simp
    · have := h.lt b hb; simp; omega
  · simp only [List.flatMap_cons, Fact.own, List.singleton_append, List.nodup_cons]
    exact ⟨fun hm => by have := h.lt _ (h.own _ hm).1; omega, h.nodup⟩
  · intro b hb
    simp only [List.flatMap_cons, Fact.own, List.singleton_append, List.mem_cons] at hb
    rcases hb with rfl | hb
    · exact ⟨by simp, .inr h.keep.size⟩
    · exact ⟨List.mem_cons_of_mem _ (h.own b hb).1, (h.own b hb).2⟩
  · intro f hf
    rcases List.mem_cons.1 hf with rfl | hf
    · exact heap_alloc_new w _
    · refine Fact.mono (h.facts f hf) (fun b hb hl => ?_) (fun b hb _ => heap_alloc_old w _ b hb) (by simp) (fun b hb => heap_alloc_old w _ b (Fact.own_lt (h.facts f hf) b hb))
      rcases List.mem_cons.1 hb with rfl | hb
      · omega
      · assumption

/-- A new block that is the call's own: any object. -/
theorem Ctx.newObj (h : Ctx O0 K w0 O w L) (o : Obj) (φ : Obj → Prop) (hφ : φ o) : Ctx O0 K w0 (w.heap.size :: O) (w.alloc o) (.obj w.heap.size φ :: L) := by
  refine ⟨fun b hb => List.mem_cons_of_mem _ (h.sub b hb), ?_, h.keep.trans (Keep.alloc _ _ _), ?_, ?_, ?_⟩
  · intro b hb
    rcases List.mem_cons.1 hb with rfl | hb
    · simp
    · have := h.lt b hb; simp; omega
  · simp only [List.flatMap_cons, Fact.own, List.singleton_append, List.nodup_cons]
    exact ⟨fun hm => by have := h.lt _ (h.own _ hm).1; omega, h.nodup⟩
  · intro b hb
    simp only [List.flatMap_cons, Fact.own, List.singleton_append, List.mem_cons] at hb
    rcases hb with rfl | hb
    · exact ⟨by simp, .inr h.keep.size⟩
    · exact ⟨List.mem_cons_of_mem _ (h.own b hb).1, (h.own b hb).2⟩
  · intro f hf
    rcases List.mem_cons.1 hf with rfl | hf
    · exact ⟨o, heap_alloc_new w o, hφ⟩
    · refine Fact.mono (h.facts f hf) (fun b hb hl => ?_) (fun b hb _ => heap_alloc_old w _ b hb) (by simp) (fun b hb => heap_alloc_old w _ b (Fact.own_lt (h.facts f hf) b hb))
      rcases List.mem_cons.1 hb with rfl | hb
      · omega
      · assumption

theorem Keep.setBlock {K : List Nat} {w w' : World} {b : Nat} (hs : w'.heap.size = w.heap.size) (ho : w'.os = w.os) (ht : w'.tape = w.tape) (hu : w'.output = w.output)
    (hb : ∀ k, k ≠ b → w'.heap[k]? = w.heap[k]?) (hK : b ∈ K) : Keep K w w' :=
  ⟨ho, ht, hu, by omega, fun k _ hk => hb k (fun e => hk (e ▸ hK))⟩

/-- A block of the call's own is turned: the facts on the others stay. -/
theorem Ctx.turn (h : Ctx O0 K w0 O w L) {i : Nat} {f g : Fact} {b : Nat} (hi : L[i]? = some f) (hf : f.own = [b]) (hg : g.own = [b]) (hs : w.heap.size ≤ w'.heap.size)
    (ho : w'.os = w.os) (ht : w'.tape = w.tape) (hu : w'.output = w.output) (hb : ∀ k, k < w.heap.size → k ≠ b → w'.heap[k]? = w.heap[k]?) (hgh : g.holds O w') :
    Ctx O0 K w0 O w' (L.set i g) := by
  have hil : i < L.length := (List.getElem?_eq_some_iff.1 hi).1
  have hfi : L[i] = f := (List.getElem?_eq_some_iff.1 hi).2
  have hbO := h.own b (by rw [List.mem_flatMap]; exact ⟨f, List.mem_of_getElem? hi, by simp [hf]⟩)
  have hsame : (L.set i g).flatMap Fact.own = L.flatMap Fact.own := by
    rw [List.flatMap_def, List.flatMap_def, List.map_set, hg, ← hf, ← hfi]
    congr 1
    rw [← List.getElem_map Fact.own (h := by simpa using hil), List.set_getElem_self]
  refine ⟨h.sub, fun b hb => Nat.lt_of_lt_of_le (h.lt b hb) hs, ?_, by rw [hsame]; exact h.nodup, by rw [hsame]; exact h.own, ?_⟩
  · refine ⟨ho.trans h.keep.os, ht.trans h.keep.tape, hu.trans h.keep.output, Nat.le_trans h.keep.size hs, fun k hk hkK => ?_⟩
    rw [hb k (Nat.lt_of_lt_of_le hk h.keep.size) (fun e => by subst e; rcases hbO.2 with h' | h'; exact hkK h'; omega)]
    exact h.keep.block k hk hkK
  · intro f' hf'
    obtain ⟨j, hj⟩ := List.mem_iff_getElem?.1 hf'
    rw [List.getElem?_set] at hj
    split at hj
    · rename_i e

      cases hj; exact hgh
    · rename_i hne
      have hfm := List.mem_of_getElem? hj
      refine Fact.mono (h.facts f' hfm) (fun _ h _ => h) (fun k hk hkO => hb k hk (fun e => hkO (e ▸ hbO.1))) hs (fun k hk => hb k (Fact.own_lt (h.facts f' hfm) k hk) ?_)
      rintro rfl
      -- the own lists of two places are apart
      have hnd := h.nodup
      rw [List.flatMap_def] at hnd
      have hp := (List.pairwise_flatten.1 hnd).2
      rw [List.pairwise_iff_getElem] at hp
      have hjl : j < L.length := (List.getElem?_eq_some_iff.1 hj).1
      have hfj : L[j] = f' := (List.getElem?_eq_some_iff.1 hj).2
      rcases Nat.lt_or_gt_of_ne hne with hlt | hlt
      · have := hp i j (by simpa using hil) (by simpa using hjl) hlt
        simp only [List.getElem_map, hfi, hfj, hf] at this
        exact this k (by simp) k hk rfl
      · have := hp j i (by simpa using hjl) (by simpa using hil) hlt
        simp only [List.getElem_map, hfi, hfj, hf] at this
        exact this k hk k (by simp) rfl
end
end Go.Gx
