/- Operations on memory; calls. -/
import Derived.Test.YtfkgbpkgggaphaaGreatDoorGxD
namespace Go.Gx
open Go

section
variable {P : Program} {n : Nat} {Q : Exit → Env → World → Prop} {ρ : Env} {w : World} {ops : Array Oper} {rest : List Oper} {d : Nat} {ty : TypeId} {pos : String} {after : Array Edge}
  {x y c : Operand} {t t' : TypeId} {O0 K O : List Nat} {w0 : World} {L : List Fact} {τ : Type} {r : Rp τ}

theorem WL_skipping {op : Op} {w' : World}
    (hrun : ∀ dst ty pos after g, (execOp (ev ρ) ⟨dst, op, ty, pos, after, g⟩).run P w = .ok .skip w')
    (h : WL P n ops rest Q ρ w') : WL P n ops (⟨none, op, ty, pos, after, none⟩ :: rest) Q ρ w := by
  intro a ha
  refine wpList_plain rfl fun K hK => ?_
  have := hrun none ty pos after none
  rw [← ha.env, ev_envOf] at this
  unfold Oper.wp
  rw [this]
  exact hK _ _ (h _ ha)

/-! Slices that are read. -/
theorem WL_llen {a : Option Addr} {m cp : Nat} {e : TypeId} (ht : P.underlying t = some (.slice e)) (hd : d < n) (hx : ev ρ x = .slice a m cp) (h : WL P n ops rest Q (upd ρ d (.int .i64 m)) w) :
    WL P n ops (⟨some d, .call { callee := .builtin .len, args := #[x], argTypes := #[t] }, ty, pos, after, none⟩ :: rest) Q ρ w :=
  WL_value hd (by
    intros
    have : ∀ ty, (Builtin.len_ #[t] ty #[.slice a m cp]).run P w = .ok (goInt m) w := by intro ty; simp [Builtin.len_, run_underlying ht]
    simp only [execOp, resolve, invoke, builtin, Sem.run_bind, Sem.run_pure, Result.andThen_ok, List.map_toArray, List.map_cons, List.map_nil, hx, this, goInt]) h

theorem elem_of_slice {a : Option Addr} {m cp : Nat} {l : List τ} {i : Int} {xx : τ} (hF : r.sl.rel O w [.slice a m cp] l) (hg : sget l i = some xx) :
    ∃ b off, a = some ⟨b, off, none⟩ ∧ 0 ≤ i ∧ i < m ∧ (Fact.elem r ⟨b, off + i.toNat * r.sz, none⟩ xx).holds O w := by
  obtain ⟨a', cap', xs, hcs, hcap, hrel, hor⟩ := hF
  simp only [List.cons.injEq, Value.slice.injEq, and_true] at hcs
  obtain ⟨rfl, rfl, rfl⟩ := hcs
  unfold sget at hg
  split at hg
  · rename_i h0
    have hil : i.toNat < l.length := (List.getElem?_eq_some_iff.1 hg).1
    rcases hor with rfl | ⟨b, off, rfl, hb, hbO, hcell⟩
    · simp at hil
    · obtain ⟨cc, hc1, hc2⟩ := hrel.get hg
      refine ⟨b, off, rfl, h0, by omega, cc, hc1, hb, hbO, rfl, fun j hj => ?_⟩
      have hcl := r.len hc1
      have hj2 := hc2 j hj
      have hj3 : cc[j]? = some cc[j] := List.getElem?_eq_getElem (by omega)
      show w.cell? ⟨b, off + i.toNat * r.sz + j, none⟩ = cc[j]?
      rw [hj3] at hj2 ⊢
      rw [Nat.add_assoc]
      exact hcell _ _ hj2
  · cases hg

theorem WL_indexAddr {a : Option Addr} {m cp : Nat} {l : List τ} {k : IntKind} {i : Int} {xx : τ} {e : TypeId} (hF : r.sl.rel O w [.slice a m cp] l) (hg : sget l i = some xx)
    (ht : P.underlying t = some (.slice e)) (hz : ∀ w, (sizeOf e).run P w = .ok r.sz w) (hd : d < n) (hx : ev ρ x = .slice a m cp) (hy : ev ρ y = .int k i)
    (h : ∀ ad, (Fact.elem r ad xx).holds O w → WL P n ops rest Q (upd ρ d (.pointer (some ad))) w) :
    WL P n ops (⟨some d, .indexAddr t x y, ty, pos, after, none⟩ :: rest) Q ρ w := by
  obtain ⟨b, off, rfl, h0, hlt, hE⟩ := elem_of_slice hF hg
  refine WL_value hd (w' := w) ?_ (h _ hE)
  intros
  simp only [execOp, hx, hy, Sem.run_bind]
  rw [show (Instr.indexAt t (.slice (some ⟨b, off, none⟩) m cp) (.int k i)).run P w = .ok (.pointer (some ⟨b, off + i.toNat * r.sz, none⟩)) w from by
    simp [Instr.indexAt, asIntOf, run_underlying ht, h0, hlt, hz, Addr.add_lit]]
  rfl

theorem run_load1 {T : TypeId} {a : Addr} {v : Value} (ha : ∀ w, (isAgg T).run P w = .ok false w) (hc : w.cell? a = some v) : (Instr.loadAt T (.pointer (some a))).run P w = .ok v w := by
  simp [Instr.loadAt, Instr.sureAddr, loadVar, ha, hc]
theorem run_loadA {T : TypeId} {b off : Nat} {cs : List Value} (ha : ∀ w, (isAgg T).run P w = .ok true w) (hz : ∀ w, (sizeOf T).run P w = .ok cs.length w)
    (hc : ∀ j, j < cs.length → w.cell? ⟨b, off + j, none⟩ = cs[j]?) : (Instr.loadAt T (.pointer (some ⟨b, off, none⟩))).run P w = .ok (.agg cs.toArray) w := by
  have := run_loadCells_list (P := P) w ⟨b, off, none⟩ cs (fun j v hv => by
    rw [Addr.add_lit, hc j (List.getElem?_eq_some_iff.1 hv).1]; exact hv)
  simp [Instr.loadAt, Instr.sureAddr, loadVar, ha, hz, this]

theorem WL_loadF {f : τ → Value} {h1 : ∀ x, (f x).oneCell' = true} {ad : Addr} {xx : τ} {T : TypeId} (hE : (Fact.elem (Rp.flat f h1) ad xx).holds O w) (ha : ∀ w, (isAgg T).run P w = .ok false w)
    (hd : d < n) (hx : ev ρ x = .pointer (some ad)) (h : WL P n ops rest Q (upd ρ d (f xx)) w) : WL P n ops (⟨some d, .load T x, ty, pos, after, none⟩ :: rest) Q ρ w := by
  obtain ⟨cc, hc1, _, _, hs, hc2⟩ := hE
  refine WL_value hd (w' := w) ?_ h
  intros
  obtain ⟨b, off, sp⟩ := ad
  cases (show sp = none from hs)
  have : w.cell? ⟨b, off, none⟩ = some (f xx) := by
    have := hc2 0 (show 0 < 1 from Nat.one_pos)
    rw [show cc = [f xx] from hc1] at this
    simpa using this
  simp only [execOp, hx, Sem.run_bind, run_load1 ha this, Result.andThen_ok, Sem.run_pure]

theorem WL_load1 {ad : Addr} {xx : τ} {T : TypeId} (hE : (Fact.elem r ad xx).holds O w) (hr : r.sz = 1) (ha : ∀ w, (isAgg T).run P w = .ok false w)
    (hd : d < n) (hx : ev ρ x = .pointer (some ad)) (h : ∀ v, r.rel O w [v] xx → WL P n ops rest Q (upd ρ d v) w) : WL P n ops (⟨some d, .load T x, ty, pos, after, none⟩ :: rest) Q ρ w := by
  obtain ⟨cc, hc1, _, _, hs, hc2⟩ := hE
  have hl := r.len hc1
  rw [hr] at hl hc2
  obtain ⟨v, rfl⟩ := List.length_eq_one_iff.1 hl
  refine WL_value hd (w' := w) ?_ (h v hc1)
  intros
  obtain ⟨b, off, sp⟩ := ad
  cases (show sp = none from hs)
  have : w.cell? ⟨b, off, none⟩ = some v := by simpa using hc2 0 (show 0 < 1 from Nat.one_pos)
  simp only [execOp, hx, Sem.run_bind, run_load1 ha this, Result.andThen_ok, Sem.run_pure]

theorem WL_loadA {ad : Addr} {xx : τ} {T : TypeId} (hE : (Fact.elem r ad xx).holds O w) (ha : ∀ w, (isAgg T).run P w = .ok true w) (hz : ∀ w, (sizeOf T).run P w = .ok r.sz w)
    (hd : d < n) (hx : ev ρ x = .pointer (some ad)) (h : ∀ cs, r.rel O w cs xx → WL P n ops rest Q (upd ρ d (.agg cs.toArray)) w) : WL P n ops (⟨some d, .load T x, ty, pos, after, none⟩ :: rest) Q ρ w := by
  obtain ⟨cc, hc1, _, _, hs, hc2⟩ := hE
  have hl := r.len hc1
  refine WL_value hd (w' := w) ?_ (h cc hc1)
  intros
  obtain ⟨b, off, sp⟩ := ad
  cases (show sp = none from hs)
  simp only [execOp, hx, Sem.run_bind, run_loadA ha (by rw [hl]; exact hz) (fun j hj => hc2 j (by omega)), Result.andThen_ok, Sem.run_pure]

/-- A part of an element. -/
def SubAt {α β : Type} (r : Rp α) (off : Nat) (s : Rp β) (g : α → β) : Prop :=
  ∀ O w c x, r.rel O w c x → ∃ c', s.rel O w c' (g x) ∧ ∀ j, j < s.sz → off + j < r.sz ∧ c[off + j]? = c'[j]?

theorem elem_sub {α β : Type} {r : Rp α} {off : Nat} {s : Rp β} {g : α → β} {ad : Addr} {xx : α} (hs : SubAt r off s g) (hE : (Fact.elem r ad xx).holds O w) :
    (Fact.elem s ⟨ad.block, ad.off + off, none⟩ (g xx)).holds O w := by
  obtain ⟨cc, hc1, h1, h2, h3, hc2⟩ := hE
  obtain ⟨c', hc', hj⟩ := hs _ _ _ _ hc1
  refine ⟨c', hc', h1, h2, rfl, fun j hjs => ?_⟩
  obtain ⟨hlt, he⟩ := hj j hjs
  show w.cell? ⟨ad.block, ad.off + off + j, none⟩ = _
  rw [← he, Nat.add_assoc]
  exact hc2 _ hlt

theorem run_fieldAt {S : TypeId} {fs : Array Field} {f k : Nat} {fd : Field} {b off : Nat} (hs : P.underlying S = some (.struct fs)) (hf : fs[f]? = some fd) (hk : ∀ w, (sizeOf fd.type).run P w = .ok (k + 1) w) :
    (Instr.fieldAt S (.pointer (some ⟨b, off, none⟩)) f).run P w = .ok (.pointer (some ⟨b, off + fd.offset, none⟩)) w := by
  simp [Instr.fieldAt, run_underlying hs, hf, Instr.sureAddr, fieldPlace, hk, Addr.add_lit]

theorem WL_fieldElem {α β : Type} {r : Rp α} {s : Rp β} {g : α → β} {ad : Addr} {xx : α} {S : TypeId} {fs : Array Field} {f k off : Nat} {fd : Field}
    (hE : (Fact.elem r ad xx).holds O w) (hsub : SubAt r off s g) (hs : P.underlying S = some (.struct fs)) (hf : fs[f]? = some fd) (ho : fd.offset = off) (hk : ∀ w, (sizeOf fd.type).run P w = .ok (k + 1) w)
    (hd : d < n) (hx : ev ρ x = .pointer (some ad)) (h : ∀ ad', (Fact.elem s ad' (g xx)).holds O w → WL P n ops rest Q (upd ρ d (.pointer (some ad'))) w) :
    WL P n ops (⟨some d, .fieldAddr S x f, ty, pos, after, none⟩ :: rest) Q ρ w := by
  have hE' := elem_sub hsub hE
  obtain ⟨cc, hc1, _, _, hsp, hc2⟩ := hE
  obtain ⟨b, o, sp⟩ := ad
  cases (show sp = none from hsp)
  subst ho
  refine WL_value hd (w' := w) ?_ (h _ hE')
  intros
  simp only [execOp, hx, Sem.run_bind, run_fieldAt hs hf hk, Result.andThen_ok, Sem.run_pure]

/-! Variables. -/
theorem WL_box {T : TypeId} {v : Value} {cells : List Value} (hC : Ctx O0 K w0 O w L) (hd : d < n) (hx : ev ρ x = v) (hv : v.cells = cells.toArray)
    (h : ∀ b w', Ctx O0 K w0 (b :: O) w' (.box b cells T :: L) → WL P n ops rest Q (upd ρ d (.pointer (some ⟨b, 0, none⟩))) w') :
    WL P n ops (⟨some d, .box T x, ty, pos, after, none⟩ :: rest) Q ρ w := by
  refine WL_value hd ?_ (h _ _ (hC.box cells T))
  intros
  simp [execOp, hx, Instr.box, newVar, newRow, hv]

theorem WL_alloc {T : TypeId} {z : Value} {cells : List Value} (hC : Ctx O0 K w0 O w L) (hz : ∀ w, (zeroValue T).run P w = .ok z w) (hv : z.cells = cells.toArray) (hd : d < n)
    (h : ∀ b w', Ctx O0 K w0 (b :: O) w' (.box b cells T :: L) → WL P n ops rest Q (upd ρ d (.pointer (some ⟨b, 0, none⟩))) w') :
    WL P n ops (⟨some d, .alloc T, ty, pos, after, none⟩ :: rest) Q ρ w := by
  refine WL_value hd ?_ (h _ _ (hC.box cells T))
  intros
  simp [execOp, Instr.alloc, newVar, newRow, hv, hz]

theorem WL_fieldBox {b off : Nat} {S : TypeId} {fs : Array Field} {f k : Nat} {fd : Field} (hs : P.underlying S = some (.struct fs)) (hf : fs[f]? = some fd) (hk : ∀ w, (sizeOf fd.type).run P w = .ok (k + 1) w)
    (hd : d < n) (hx : ev ρ x = .pointer (some ⟨b, off, none⟩)) (h : WL P n ops rest Q (upd ρ d (.pointer (some ⟨b, off + fd.offset, none⟩))) w) :
    WL P n ops (⟨some d, .fieldAddr S x f, ty, pos, after, none⟩ :: rest) Q ρ w :=
  WL_value hd (by intros; simp only [execOp, hx, Sem.run_bind, run_fieldAt hs hf hk, Result.andThen_ok, Sem.run_pure]) h

theorem box_cell {b off : Nat} {cells : List Value} {T : TypeId} (hh : (Fact.box b cells T).holds O w) : w.cell? ⟨b, off, none⟩ = cells[off]? := by
  have hh' : w.heap[b]? = some (.cells cells.toArray T (0, 0)) := hh
  rw [cell_of_row w b off _ _ _ hh']; simp

theorem WL_loadBox {b off i : Nat} {cells : List Value} {T T' : TypeId} {v : Value} (hC : Ctx O0 K w0 O w L) (hi : L[i]? = some (.box b cells T)) (hc : cells[off]? = some v) (ha : ∀ w, (isAgg T').run P w = .ok false w)
    (hd : d < n) (hx : ev ρ x = .pointer (some ⟨b, off, none⟩)) (h : WL P n ops rest Q (upd ρ d v) w) : WL P n ops (⟨some d, .load T' x, ty, pos, after, none⟩ :: rest) Q ρ w := by
  have hcell : w.cell? ⟨b, off, none⟩ = some v := (box_cell (hC.at hi)).trans hc
  exact WL_value hd (by intros; simp only [execOp, hx, Sem.run_bind, run_load1 ha hcell, Result.andThen_ok, Sem.run_pure]) h

theorem WL_loadBoxA {b off i : Nat} {cells cs : List Value} {T T' : TypeId} (hC : Ctx O0 K w0 O w L) (hi : L[i]? = some (.box b cells T)) (hc : (cells.drop off).take cs.length = cs) (ha : ∀ w, (isAgg T').run P w = .ok true w)
    (hz : ∀ w, (sizeOf T').run P w = .ok cs.length w) (hd : d < n) (hx : ev ρ x = .pointer (some ⟨b, off, none⟩)) (h : WL P n ops rest Q (upd ρ d (.agg cs.toArray)) w) :
    WL P n ops (⟨some d, .load T' x, ty, pos, after, none⟩ :: rest) Q ρ w :=
  WL_value hd (by
    intros
    simp only [execOp, hx, Sem.run_bind, run_loadA (cs := cs) ha hz (fun j hj => by
      rw [box_cell (hC.at hi)]
      conv => rhs; rw [← hc]
      rw [List.getElem?_take_of_lt hj, List.getElem?_drop]), Result.andThen_ok, Sem.run_pure]) h

theorem run_storeCells_row (b off : Nat) (T : TypeId) (fr : Nat × Nat) : ∀ (vs : List Value) (i : Nat) (cells : List Value) (w : World), w.heap[b]? = some (.cells cells.toArray T fr) → (∀ j, j < cells.length → ¬ (fr.1 ≤ j ∧ j < fr.2)) →
    off + i + vs.length ≤ cells.length → (∀ u ∈ vs, u.oneCell' = true) →
    ∃ w', (storeCells ⟨b, off, none⟩ vs i).run P w = .ok () w' ∧ w'.heap[b]? = some (.cells (cells.take (off + i) ++ vs ++ cells.drop (off + i + vs.length)).toArray T fr) ∧ w'.heap.size = w.heap.size ∧ w'.os = w.os ∧ w'.tape = w.tape ∧ w'.output = w.output ∧
      ∀ k, k ≠ b → w'.heap[k]? = w.heap[k]?
  | [], i, cells, w, hb, _, _, _ => by
    refine ⟨w, by simp [storeCells], by simpa using hb, rfl, rfl, rfl, rfl, fun _ _ => rfl⟩
  | v :: vs, i, cells, w, hb, hfz, hl, h1 => by
    have hil : off + i < cells.length := by simp at hl; omega
    have hcell : w.cell? ⟨b, off + i, none⟩ = some cells[off + i] := by
      rw [cell_of_row w b (off + i) _ _ _ hb]; simp
    have hfr : w.frozen? ⟨b, off + i, none⟩ = false := by
      have := hfz (off + i) hil
      simp only [World.frozen?, hb]
      simpa using this
    have hs := run_store P w ⟨b, off + i, none⟩ v .plain (h1 v (by simp))
    have hst : (store ⟨b, off + i, none⟩ v).run P w = .ok () (w.setCell ⟨b, off + i, none⟩ v) := by rw [hs]; simp [hcell, hfr]
    have hb2 : (w.setCell ⟨b, off + i, none⟩ v).heap[b]? = some (.cells (cells.set (off + i) v).toArray T fr) := by
      simp [World.setCell, Array.getElem?_modify, hb]
    obtain ⟨w', hr, hb', hsz, ho, ht, hu, hk⟩ := run_storeCells_row b off T fr vs (i + 1) (cells.set (off + i) v) _ hb2 (by simpa using hfz) (by simp at hl ⊢; omega) (fun u hu => h1 u (by simp [hu]))
    refine ⟨w', ?_, ?_, by rw [hsz]; simp, ho, ht, hu, fun k hk' => (hk k hk').trans (heap_setCell_other _ _ _ _ hk')⟩
    · simp only [storeCells, Addr.add_lit, Sem.run_bind, hst, Result.andThen_ok, hr]
    · rw [hb']
      congr 3
      simp only [List.length_cons] at hl ⊢
      rw [show off + (i + 1) = off + i + 1 from by omega, List.take_add_one, List.take_set_of_le (by omega), List.getElem?_set_self (by omega), List.drop_set_of_lt (by omega)]
      simp; congr 1; omega

theorem WL_storeBox {b off i : Nat} {cells cells' vs : List Value} {T T' : TypeId} {v : Value} (hC : Ctx O0 K w0 O w L) (hi : L[i]? = some (.box b cells T)) (hv : v.cells = vs.toArray) (hz : ∀ w, (sizeOf T').run P w = .ok vs.length w)
    (h1 : ∀ u ∈ vs, u.oneCell' = true) (hl : off + vs.length ≤ cells.length) (hc : cells.take off ++ vs ++ cells.drop (off + vs.length) = cells')
    (hx : ev ρ x = .pointer (some ⟨b, off, none⟩)) (hy : ev ρ y = v) (h : ∀ w', Ctx O0 K w0 O w' (L.set i (.box b cells' T)) → WL P n ops rest Q ρ w') :
    WL P n ops (⟨none, .store T' x y, ty, pos, after, none⟩ :: rest) Q ρ w := by
  have hb : w.heap[b]? = some (.cells cells.toArray T (0, 0)) := hC.at hi
  obtain ⟨w', hr, hb', hsz, ho, ht, hu, hk⟩ := run_storeCells_row (P := P) b off T (0, 0) vs 0 cells w hb (by intro j _ h; omega) (by simpa using hl) h1
  have hC' := hC.turn (g := .box b cells' T) hi rfl rfl (Nat.le_of_eq hsz.symm) ho ht hu (fun k _ => hk k) (by
    show w'.heap[b]? = _
    rw [hb', Nat.add_zero, hc])
  refine WL_skipping ?_ (h _ hC')
  intros
  simp only [execOp, hx, hy, Instr.storeAt, Instr.sureAddr, storeVar, Sem.run_bind, Sem.run_pure, Result.andThen_ok, hz, hv]
  simp [hr]

/-! Calls. -/
def Enters (P : Program) (f : FuncId) : Prop := ∀ args w, (callFunc f args).run P w = .ok (.enter f args) w
theorem Enters.mk {f : FuncId} {fn : Func} (hf : P.funcs[f]? = some fn) (hn : (fn.name == "runtime.NumGoroutine") = false) (hb : fn.body.isNone = false) : Enters P f := by
  intro args w
  have hn' : ¬ fn.name = "runtime.NumGoroutine" := by simpa using hn
  have hb' : ¬ fn.body = none := by intro h; rw [h] at hb; cases hb
  simp [callFunc, hf, hn', hb']

theorem WL_call {f : FuncId} {fo : Operand} {al : List Operand} {ats : Array TypeId} {cap vl : List Value} {ζ : Type} {g : ζ → Value} {T : ζ → World → Prop} (he : Enters P f) (hd : d < n)
    (hfo : ev ρ fo = .func (.func f) #[] cap.toArray) (hargs : al.map (ev ρ) = vl) (hc : Calls P f (vl ++ cap).toArray w fun e w' => ∃ z : ζ, e = .returned (g z) ∧ T z w')
    (h : ∀ z w', T z w' → WL P n ops rest Q (upd ρ d (g z)) w') :
    WL P n ops (⟨some d, .call { callee := .value fo, args := al.toArray, argTypes := ats }, ty, pos, after, none⟩ :: rest) Q ρ w := by
  intro a ha
  refine wpList_plain rfl fun K hK => ?_
  have hrun : (execOp (ev ρ) ⟨some d, .call { callee := .value fo, args := al.toArray, argTypes := ats }, ty, pos, after, none⟩).run P w = .ok (.enter f (vl ++ cap).toArray) w := by
    subst hargs
    simp [execOp, resolve, hfo, Deferred.ofValue, invoke]
    exact he _ _
  rw [← ha.env, ev_envOf] at hrun
  unfold Oper.wp
  rw [hrun, Oper.upon_enter]
  refine hc.mono fun e w' ⟨z, hz, hT⟩ => ?_
  subst hz
  exact hK _ _ (h z w' hT _ (ha.put hd _))
end
end Go.Gx
