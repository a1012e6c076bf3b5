/- Composite literals. -/
import Derived.Test.YtfkgbpkgggaphaaGreatDoorGxH
namespace Go.Gx
open Go

theorem foldl_sets (off : Nat) : ∀ (vs : List Value) (j : Nat) (cs : List Value), off + j + vs.length ≤ cs.length →
    (vs.zipIdx j).foldl (fun (cs : Array Value) (p : Value × Nat) => cs.setIfInBounds (off + p.2) p.1) cs.toArray = (cs.take (off + j) ++ vs ++ cs.drop (off + j + vs.length)).toArray
  | [], j, cs, _ => by simp
  | v :: vs, j, cs, h => by
    have hl : off + j < cs.length := by simp at h; omega
    simp only [List.zipIdx_cons, List.foldl_cons, List.setIfInBounds_toArray]
    rw [foldl_sets off vs (j + 1) (cs.set (off + j) v) (by simp at h ⊢; omega)]
    congr 1
    rw [show off + (j + 1) = off + j + 1 from by omega, List.take_add_one, List.take_set_of_le (by omega), List.getElem?_set_self hl, List.drop_set_of_lt (by omega)]
    simp; congr 1; omega

theorem fill_one {off sz : Nat} {v : Value} {vs cs : List Value} (hv : v.cells = vs.toArray) (hs : vs.length = sz) (hl : off + sz ≤ cs.length) (place : Nat → Option (Nat × Nat)) (i : Nat) (hp : place i = some (off, sz)) (rest : List (Nat × Value)) :
    Instr.fill place cs.toArray ((i, v) :: rest) = Instr.fill place (cs.take off ++ vs ++ cs.drop (off + sz)).toArray rest := by
  subst hs
  rw [Instr.fill]
  simp only [hp]
  have h1 : v.cells.size = vs.length := by rw [hv]; simp
  rw [if_neg (by simp [h1]; omega), hv]
  have h2 := foldl_sets off vs 0 cs (by simpa using hl)
  simp only [Nat.add_zero] at h2
  rw [← h2]
  congr 1
  rw [← Array.foldl_toList]
  simp

/-- All elements of a literal, one behind the other. -/
theorem fill_all {sz : Nat} : ∀ (vss : List (Value × List Value)) (j : Nat) (done rest0 : List Value), (∀ p ∈ vss, p.1.cells = p.2.toArray ∧ p.2.length = sz) → done.length = j * sz → rest0.length = vss.length * sz →
    Instr.fill (fun i => some (i * sz, sz)) (done ++ rest0).toArray ((vss.zipIdx j).map fun p => (p.2, p.1.1)) = some (done ++ vss.flatMap (·.2)).toArray
  | [], j, done, rest0, _, _, h => by
    have : rest0 = [] := List.eq_nil_of_length_eq_zero (by simpa using h)
    subst this
    simp [Instr.fill]
  | (v, vs) :: vss, j, done, rest0, h1, h2, h3 => by
    obtain ⟨hv, hs⟩ := h1 (v, vs) (by simp)
    simp only [List.zipIdx_cons, List.map_cons]
    rw [fill_one hv hs (off := j * sz) (by simp [h2, h3, Nat.add_mul]) (fun i => some (i * sz, sz)) j rfl]
    have e1 : (done ++ rest0).take (j * sz) ++ vs ++ (done ++ rest0).drop (j * sz + sz) = (done ++ vs) ++ rest0.drop sz := by
      rw [← h2, List.take_left, List.drop_length_add_append]
    rw [e1, fill_all vss (j + 1) (done ++ vs) (rest0.drop sz) (fun p hp => h1 p (by simp [hp])) (by simp [h2, hs, Nat.add_mul]) (by simp [h3, Nat.add_mul])]
    simp

section
variable {P : Program} {n : Nat} {Q : Exit → Env → World → Prop} {ρ : Env} {w w' : World} {ops : Array Oper} {rest : List Oper} {d : Nat} {ty : TypeId} {pos : String} {after : Array Edge}
  {x y c : Operand} {t t' : TypeId} {O0 K O : List Nat} {w0 : World} {L : List Fact} {τ : Type} {r : Rp τ}

theorem run_buildSlice {e : TypeId} {i : TypeInfo} {z : Value} {sz : Nat} (ht : P.underlying t = some (.slice e)) (hi : ∀ w, (typeInfo e).run P w = .ok i w) (hz : i.zero = some z) (hsz : i.size = sz) (hzs : z.cells.size = sz) (h0 : 0 < sz)
    (vss : List (Value × List Value)) (h1 : ∀ p ∈ vss, p.1.cells = p.2.toArray ∧ p.2.length = sz) (h24 : vss.length * sz ≤ 16777216) (pl : List (Nat × Value)) (hpl : pl = vss.zipIdx.map fun p => (p.2, p.1.1)) :
    (Instr.buildSlice t vss.length pl.toArray).run P w = .ok (.slice (some ⟨w.heap.size, 0, none⟩) vss.length vss.length) (w.alloc (.cells (vss.flatMap (·.2)).toArray e)) := by
  subst hpl
  have hinfo := info_of_run hi
  have hfill : ∀ (a : Array Value), a.size = vss.length * sz → Instr.fill (fun i => some (i * sz, sz)) a (vss.zipIdx.map fun p => (p.2, p.1.1)) = some (vss.flatMap (·.2)).toArray := by
    intro a ha
    have := fill_all vss 0 [] a.toList h1 (by simp) (by simpa using ha)
    simpa using this
  have h24' : ¬ (2 ^ 24 < vss.length * sz) := by omega
  by_cases hn : vss.length * sz = 0
  · have hv : vss = [] := by
      cases vss with
      | nil => rfl
      | cons a l => have := Nat.mul_le_mul_left sz (show 1 ≤ (a :: l).length by simp); rw [Nat.mul_comm] at hn; omega
    subst hv
    have hf := hfill #[] (by simp)
    simp [Instr.buildSlice, run_underlying ht, sizeOf, typeInfo, hinfo, newRow, Array.range_zero', Instr.fill]
  · have hf := hfill ((Array.range (vss.length * sz)).map fun x => z.cells[x % z.cells.size]!) (by simp)
    simp only [Instr.buildSlice, Sem.run_bind, run_underlying ht, Result.andThen_ok, sizeOf, typeInfo, run_program, hinfo, Sem.run_pure, hsz, gt_iff_lt]
    simp [h24', hn, zeroValue, typeInfo, hinfo, hz, hf, newRow]

/-- The cells of the elements of a literal. -/
inductive Elems (r : Rp τ) (O : List Nat) (w : World) : List (Value × List Value) → List τ → Prop where
  | nil : Elems r O w [] []
  | cons {v : Value} {vs : List Value} {x : τ} {vss : List (Value × List Value)} {l : List τ} (hv : v.cells = vs.toArray) (h : r.rel O w vs x) (t : Elems r O w vss l) : Elems r O w ((v, vs) :: vss) (x :: l)

theorem Elems.rel {vss : List (Value × List Value)} {l : List τ} (h : Elems r O w vss l) : RelList r O w (vss.flatMap (·.2)) l ∧ vss.length = l.length ∧ ∀ p ∈ vss, p.1.cells = p.2.toArray ∧ p.2.length = r.sz := by
  induction h with
  | nil => exact ⟨.nil, rfl, by simp⟩
  | cons hv h t ih =>
    obtain ⟨i1, i2, i3⟩ := ih
    refine ⟨by rw [List.flatMap_cons]; exact .cons h i1, by simp [i2], fun p hp => ?_⟩
    rcases List.mem_cons.1 hp with rfl | hp
    · exact ⟨hv, r.len h⟩
    · exact i3 p hp

theorem WL_buildSlice {e : TypeId} {i : TypeInfo} {z : Value} {m : Nat} {po : List (Nat × Operand)} {vss : List (Value × List Value)} {l : List τ} (hC : Ctx O0 K w0 O w L) (hE : Elems r O w vss l)
    (ht : P.underlying t = some (.slice e)) (hi : ∀ w, (typeInfo e).run P w = .ok i w) (hz : i.zero = some z) (hsz : i.size = r.sz) (hzs : z.cells.size = r.sz) (h0 : 0 < r.sz) (h24 : l.length * r.sz ≤ 16777216) (hm : m = l.length)
    (hpl : po.map (fun p => (p.1, ev ρ p.2)) = vss.zipIdx.map fun p => (p.2, p.1.1)) (hd : d < n)
    (h : ∀ w' a, Ctx O0 K w0 O w' (.imm r.sl [.slice a l.length l.length] l :: L) → WL P n ops rest Q (upd ρ d (.slice a l.length l.length)) w') :
    WL P n ops (⟨some d, .buildSlice t m po.toArray, ty, pos, after, none⟩ :: rest) Q ρ w := by
  obtain ⟨hr, hl, h1⟩ := hE.rel
  subst hm
  have hrun := run_buildSlice (P := P) (w := w) ht hi hz hsz hzs h0 vss h1 (by rw [hl]; exact h24) _ hpl
  rw [hl] at hrun
  refine WL_value hd ?_ (h _ (some ⟨w.heap.size, 0, none⟩) ((hC.call (Keep.alloc [] w (.cells (vss.flatMap (·.2)).toArray e))).imm ?_))
  · intros
    simp only [execOp, List.map_toArray, Sem.run_bind, hrun, Result.andThen_ok, Sem.run_pure]
  · refine sl_new (heap_alloc_new w _) (fun hm => by have := hC.lt _ hm; omega) (hr.mono (fun _ h _ => h) (fun b hb _ => (Keep.alloc [] w (.cells (vss.flatMap (·.2)).toArray e)).block b hb (by simp)) (by simp)) (Nat.le_refl _) (List.take_of_length_le (by simp))

theorem WL_buildSliceRow {e : TypeId} {i : TypeInfo} {z : Value} {m : Nat} {po : List (Nat × Operand)} {vss : List (Value × List Value)} {l : List τ} (hC : Ctx O0 K w0 O w L) (hE : Elems r O w vss l)
    (ht : P.underlying t = some (.slice e)) (hi : ∀ w, (typeInfo e).run P w = .ok i w) (hz : i.zero = some z) (hsz : i.size = r.sz) (hzs : z.cells.size = r.sz) (h0 : 0 < r.sz) (h24 : l.length * r.sz ≤ 16777216) (hm : m = l.length)
    (hpl : po.map (fun p => (p.1, ev ρ p.2)) = vss.zipIdx.map fun p => (p.2, p.1.1)) (hd : d < n)
    (h : ∀ O' w' a, Ctx O0 K w0 O' w' (.row r e (.slice a l.length l.length) l :: L) → WL P n ops rest Q (upd ρ d (.slice a l.length l.length)) w') :
    WL P n ops (⟨some d, .buildSlice t m po.toArray, ty, pos, after, none⟩ :: rest) Q ρ w := by
  obtain ⟨hr, hl, h1⟩ := hE.rel
  subst hm
  have hrun := run_buildSlice (P := P) (w := w) ht hi hz hsz hzs h0 vss h1 (by rw [hl]; exact h24) _ hpl
  rw [hl] at hrun
  refine WL_value hd ?_ (h _ _ (some ⟨w.heap.size, 0, none⟩) (hC.newRow (by simp [Fact.own, Value.ownBlock]) (Keep.alloc [] w (.cells (vss.flatMap (·.2)).toArray e)) (by simp) ?_))
  · intros
    simp only [execOp, List.map_toArray, Sem.run_bind, hrun, Result.andThen_ok, Sem.run_pure]
  · refine ⟨_, hr.mono (fun b hb hlt => ?_) (fun b hb _ => (Keep.alloc [] w (.cells (vss.flatMap (·.2)).toArray e)).block b hb (by simp)) (by simp), .inr ⟨w.heap.size, _, _, (0, 0), rfl, heap_alloc_new w _, Nat.le_refl _, ?_, ?_, ?_, by intro j _ h; omega⟩⟩
    · rcases List.mem_cons.1 hb with rfl | hb
      · omega
      · exact hb
    · have : l.length ≤ l.length * r.sz := Nat.le_mul_of_pos_right _ h0
      simp only [maxLen]; omega
    · simp only [List.size_toArray]; exact hr.length
    · rw [← hr.length]; exact List.take_of_length_le (by simp)

/-- A struct's literal. -/
theorem WL_build {fs : Array Field} {z : Value} {places : Array (Nat × Nat)} {po : List (Nat × Operand)} {pl : List (Nat × Value)} {cells : List Value} (ht : P.underlying t = some (.struct fs)) (hz : ∀ w, (zeroValue t).run P w = .ok z w)
    (hp : ∀ w, (fs.mapM fun f => (do pure (f.offset, ← sizeOf f.type) : Sem (Nat × Nat))).run P w = .ok places w) (hpl : po.map (fun p => (p.1, ev ρ p.2)) = pl) (hf : Instr.fill (places[·]?) z.cells pl = some cells.toArray) (hd : d < n)
    (h : WL P n ops rest Q (upd ρ d (.agg cells.toArray)) w) : WL P n ops (⟨some d, .build t po.toArray, ty, pos, after, none⟩ :: rest) Q ρ w :=
  WL_value hd (by
    intros
    subst hpl
    simp only [execOp, List.map_toArray, Sem.run_bind, Instr.build, hz, Result.andThen_ok, run_underlying ht, hp]
    simp [hf]) h
end
end Go.Gx
