/- From the machine to a given statement: what a law's call leaves. -/
import Derived.Test.YtflgkiddnmpfbaaGreatDoorMxS
import Derived.ReadAgain
import Derived.ChangeSame
import Derived.Deep.DeepHandedRow
set_option linter.unusedVariables false
namespace Go.Mx
open Go Go.Gx

/-- The world only grew. -/
structure Grew (W W' : World) : Prop where
  os : W'.os = W.os
  output : W'.output = W.output
  size : W.heap.size ≤ W'.heap.size
  low : ∀ b, b < W.heap.size → W'.heap[b]? = W.heap[b]?
theorem Grew.kept {W W' : World} (h : Grew W W') (may : MemPlace → Prop) : W.keptBut W' may := by
  refine ⟨h.os, h.output, fun i hi => ?_⟩
  rw [h.low i hi]
  cases W.heap[i]? with
  | none => rfl
  | some o => cases o <;> first | exact ⟨rfl, rfl, rfl, fun _ _ => rfl⟩ | exact .inr ⟨rfl, rfl⟩ | rfl
theorem Grew.same {W W' : World} (h : Grew W W') (p : MemPlace) (hp : p.block < W.heap.size) : W.sameAt W' p := by
  cases p with
  | cell b off => show W'.cell? _ = W.cell? _; unfold World.cell?; rw [h.low b hp]
  | map b => exact h.low b hp

theorem crok_grew {G : Gh} {B : Nat} {W W' : World} {v : AV} {h' : Heap} {e : Ending} (hB : B = W.heap.size) (hr : ∀ loc v r, G.at loc v = some r → r.b < B) (hc : CROK G B W (.ret v h') e W') : Grew W W' ∧ ∃ G' u, V G' v u ∧ e = .returned u := by
  obtain ⟨G', hS, u, hv, rfl⟩ := hc
  exact ⟨⟨hS.fr.os, hS.fr.output, hS.fr.size, fun b hb => hS.fr.low b hb fun loc v r hat hBr e => by have := hr _ _ _ hat; omega⟩, G', u, hv, rfl⟩

section
variable {H : Type} {enc : TypeId × Value → H} {P : Program}
theorem trodAll_grew {W W' : World} (hg : Grew W W') {base : Nat} {sp : Nat → Bool} {held : Bool} : ∀ {ts : List TypeId} {vs : List Value} {ds : List (DataW H)} {ps : List MemPlace},
    DataW.TrodAll enc P W base sp held ts vs ds ps → (∀ p ∈ ps, p.block < W.heap.size) → DataW.TrodAll enc P W' base sp held ts vs ds ps
  | [], [], [], ps, h, _ => h
  | t :: ts, v :: vs, d :: ds, ps, h, hp => by
    obtain ⟨p, q, ⟨n, h1⟩, h2, rfl⟩ := h
    exact ⟨p, q, ⟨n, DataW.trod_carry n _ _ _ h1 fun x hx => hg.same x (hp x (List.mem_append_left _ hx))⟩, trodAll_grew hg h2 (fun x hx => hp x (List.mem_append_right _ hx)), rfl⟩
  | [], [], _ :: _, _, h, _ => h.elim
  | [], _ :: _, _, _, h, _ => h.elim
  | _ :: _, [], _, _, h, _ => h.elim
  | _ :: _, _ :: _, [], _, h, _ => h.elim

/-- A LAW'S CALL LEAVES WHAT THE STATEMENT SAYS. -/
theorem post_true {fn : Func} {s : ChangeSpec} {W W' : World} {args : Array Value} {ds gs : List (DataW H)} {before : List MemPlace} {tb : TypeId}
    (hlo : laidOutB P = true) (hmr : mapsRowed P = true) (hfull : ((List.range P.types.size).all fun t => match P.underlying t with | some (.slice e) => decide (0 < P.cellsOf e) | _ => true) = true)
    (hts : (fn.params.toList.all fun t => decide (t < P.types.size)) = true) (hr : fn.resultTypes = #[tb]) (hb : P.underlying tb = some .bool) (hv : s.vars = []) (hs : s.fn H ds = { results := [.lit (.bool true)], args := ds })
    (hW : DataW.Whole enc P fn.params.toList s.vars false W args.toList ds gs before) (hg : Grew W W') :
    s.post enc P fn false true false false W args (.bool true) W' := by
  have hW0 := hW
  have hlt := hW.lt
  obtain ⟨p, q, hA, hV, rfl, hz, hn⟩ := hW
  rw [hv] at hV
  obtain ⟨rfl, rfl⟩ : gs = [] ∧ q = [] := by
    cases gs with
    | nil => exact ⟨rfl, hV⟩
    | cons => exact hV.elim
  have hT : ∀ t ∈ fn.params.toList, t < P.types.size := fun t ht => of_decide_eq_true (List.all_eq_true.1 hts t ht)
  have hA' : DataW.TrodAll enc P W 0 (fun b => decide (b < W.heap.size)) true fn.params.toList args.toList ds p :=
    DataW.TrodAll.respare (kids_rows hlo hmr) (slices_full_of P hfull) hT hA fun x hx => by simpa using hlt x (List.mem_append_left _ hx)
  refine ⟨ds, [], p ++ [], [], p, [], hW0, ?_, ?_, ?_, hg.kept _, fun e => by cases e⟩
  · rw [List.append_nil, hs, hr]
    exact ⟨[], [], ⟨1, by simp [DataW.trod, hb, Value.cells]⟩, rfl, rfl⟩
  · rw [List.append_nil, hs]
    exact trodAll_grew hg hA' fun x hx => hlt x (List.mem_append_left _ hx)
  · rw [List.append_nil, hs, hv]; rfl
end

/-- What the machine answers for a law, as the statement wants it. -/
theorem calls_of_callR {P : Program} {G : Gh} {W : World} {f : FuncId} {args : List AV} {us : Array Value} {h h' : Heap} (hC : CallR P W.heap.size W f args h (.ret (.bool true) h')) (hf : Enters P f) (hx : VL G args us.toList) (hr : HR G W.heap.size h W)
    (hg : Glob P W.heap.size W G W) (hlow : ∀ loc v r, G.at loc v = some r → r.b < W.heap.size) : Calls P f us W fun e W' => e = .returned (.bool true) ∧ Grew W W' := by
  rcases hC G us.toList W hx hr hg with ⟨hc, _⟩ | ⟨v, h'', u, w', G', he, hrun, _⟩
  · refine hc.mono fun e W' hcr => ?_
    obtain ⟨h1, G', u, hv, rfl⟩ := crok_grew rfl hlow hcr
    cases hv
    exact ⟨rfl, h1⟩
  · rw [hf us.toList.toArray W] at hrun
    cases hrun
end Go.Mx
