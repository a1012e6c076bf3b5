/- Small words of the walks that a program writes. -/
import Derived.Test.YtfkgbpkgggaphaaGreatDoorGxI
namespace Go.Gx
open Go

theorem bindE {α β : Type} {o : Option α} {f : α → Option β} {r : β} (h : o.bind f = some r) : ∃ a, o = some a ∧ f a = some r := by
  cases o with
  | none => cases h
  | some a => exact ⟨a, rfl, h⟩
theorem iteT {β : Type} {c : Bool} {a b : Option β} {r : β} (hc : c = true) (h : (if c = true then a else b) = some r) : a = some r := by rwa [if_pos hc] at h
theorem iteF {β : Type} {c : Bool} {a b : Option β} {r : β} (hc : c = false) (h : (if c = true then a else b) = some r) : b = some r := by rwa [if_neg (by simp [hc])] at h

theorem pick_own {L : List Fact} (hnd : (L.flatMap Fact.own).Nodup) {i j : Nat} {f g : Fact} (hi : L[i]? = some f) (hj : L[j]? = some g) (hne : i ≠ j) : ∀ b, b ∈ f.own → b ∈ g.own → False := by
  intro b hb hg
  rw [List.flatMap_def] at hnd
  have hp := (List.pairwise_flatten.1 hnd).2
  rw [List.pairwise_iff_getElem] at hp
  obtain ⟨hil, hfi⟩ := List.getElem?_eq_some_iff.1 hi
  obtain ⟨hjl, hgj⟩ := List.getElem?_eq_some_iff.1 hj
  rcases Nat.lt_or_gt_of_ne hne with hlt | hlt
  · have := hp i j (by simpa using hil) (by simpa using hjl) hlt
    simp only [List.getElem_map, hfi, hgj] at this
    exact this b hb b hg rfl
  · have := hp j i (by simpa using hjl) (by simpa using hil) hlt
    simp only [List.getElem_map, hfi, hgj] at this
    exact this b hg b hb rfl

theorem pick_nodup {L : List Fact} (hnd : (L.flatMap Fact.own).Nodup) : ∀ (idx : List Nat) (L' : List Fact), idx.Nodup → idx.map (fun i => L[i]?) = L'.map some → (L'.flatMap Fact.own).Nodup
  | [], [], _, _ => by simp
  | i :: idx, f :: L', h1, h2 => by
    simp only [List.map_cons, List.cons.injEq] at h2
    rw [List.nodup_cons] at h1
    rw [List.flatMap_cons]
    refine List.nodup_append.2 ⟨?_, pick_nodup hnd idx L' h1.2 h2.2, fun a ha b hb e => ?_⟩
    · rw [List.flatMap_def] at hnd
      exact (List.pairwise_flatten.1 hnd).1 f.own (List.mem_map.2 ⟨f, List.mem_of_getElem? h2.1, rfl⟩)
    · subst e
      obtain ⟨g, hg, hbg⟩ := List.mem_flatMap.1 hb
      have : some g ∈ idx.map (fun i => L[i]?) := by rw [h2.2]; exact List.mem_map.2 ⟨g, hg, rfl⟩
      obtain ⟨j, hj, hjg⟩ := List.mem_map.1 this
      exact pick_own hnd h2.1 hjg (fun e => h1.1 (e ▸ hj)) a ha hbg
  | [], _ :: _, _, h => by simp at h
  | _ :: _, [], _, h => by simp at h

theorem Ctx.pick {O0 K O : List Nat} {w0 w : World} {L L' : List Fact} (h : Ctx O0 K w0 O w L) (idx : List Nat) (h1 : idx.Nodup) (h2 : idx.map (fun i => L[i]?) = L'.map some) : Ctx O0 K w0 O w L' := by
  have hm : ∀ f, f ∈ L' → f ∈ L := by
    intro f hf
    have : some f ∈ idx.map (fun i => L[i]?) := by rw [h2]; exact List.mem_map.2 ⟨f, hf, rfl⟩
    obtain ⟨j, _, hj⟩ := List.mem_map.1 this
    exact List.mem_of_getElem? hj
  refine ⟨h.sub, h.lt, h.keep, pick_nodup h.nodup idx L' h1 h2, fun b hb => ?_, fun f hf => h.facts f (hm f hf)⟩
  obtain ⟨f, hf, hbf⟩ := List.mem_flatMap.1 hb
  exact h.own b (List.mem_flatMap.2 ⟨f, hm f hf, hbf⟩)

theorem Ctx.elem {O0 K O : List Nat} {w0 w : World} {L : List Fact} (h : Ctx O0 K w0 O w L) {τ : Type} {r : Rp τ} {a : Addr} {x : τ} (hf : (Fact.elem r a x).holds O w) : Ctx O0 K w0 O w (.elem r a x :: L) := h.cons hf rfl
/-- A fact at the caller's blocks. -/
theorem Ctx.immOut {O0 K O : List Nat} {w0 w : World} {L : List Fact} (h : Ctx O0 K w0 O w L) {τ : Type} {r : Rp τ} {cs : List Value} {x : τ} {i : Nat} (hi : L[i]? = some (.imm r cs x)) : r.rel O0 w cs x :=
  r.fewer (h.at hi) fun b hb _ => h.sub b hb

/-! Structs: parts. -/
theorem sub_fst {α β : Type} (r : Rp α) (s : Rp β) : SubAt (r.pair s) 0 r Prod.fst := by
  rintro O w c x ⟨c1, c2, rfl, h1, h2⟩
  refine ⟨c1, h1, fun j hj => ⟨?_, ?_⟩⟩
  · show 0 + j < r.sz + s.sz; omega
  · rw [Nat.zero_add, List.getElem?_append_left (by rw [r.len h1]; exact hj)]
theorem sub_snd {α β γ : Type} (r : Rp α) {s : Rp β} {off : Nat} {t : Rp γ} {g : β → γ} (h : SubAt s off t g) : SubAt (r.pair s) (r.sz + off) t (fun x => g x.2) := by
  rintro O w c x ⟨c1, c2, rfl, h1, h2⟩
  obtain ⟨c', hc', hj⟩ := h _ _ _ _ h2
  refine ⟨c', hc', fun j hjs => ?_⟩
  obtain ⟨h3, h4⟩ := hj j hjs
  refine ⟨?_, ?_⟩
  · show r.sz + off + j < r.sz + s.sz; omega
  · rw [← h4, List.getElem?_append_right (by rw [r.len h1]; omega), r.len h1]
    congr 1; omega
theorem sub_all {α : Type} (r : Rp α) : SubAt r 0 r id := fun _ _ c _ h => ⟨c, h, fun j hj => ⟨by omega, by rw [Nat.zero_add]⟩⟩
theorem sub_via {α β γ : Type} {r : Rp α} {f : β → α} {off : Nat} {t : Rp γ} {g : α → γ} (h : SubAt r off t g) : SubAt (r.via f) off t (fun x => g (f x)) := fun O w c x hx => h O w c (f x) hx
end Go.Gx
