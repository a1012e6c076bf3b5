/- M's memory: reading, writing, new rows. -/
import Derived.Test.YtflgkiddnmpfbaaGreatDoorMxA
import Derived.Test.YtflgkiddnmpfbaaGreatDoorGxI
namespace Go.Mx
open Go Go.Gx

abbrev AV.undef : AV := .tup []

/-- n cells at a place. -/
def rd (h : Heap) (loc off ver lim n : Nat) : Option (List AV) :=
  match h[loc]? with
  | some (.row cells _ minv _ _ _) => if minv ≤ ver ∧ off + n ≤ lim then some ((cells.drop off).take n) else none
  | some (.lay cells) => if off + n ≤ lim then some ((cells.drop off).take n) else none
  | _ => none
/-- Cells written at a place. -/
def wr (h : Heap) (loc off ver lim : Nat) (vs : List AV) : Option Heap :=
  match h[loc]? with
  | some (.row cells v _ frz false tt) => if ver = v ∧ frz ≤ off ∧ off + vs.length ≤ lim ∧ vs.all AV.one = true then some (h.set loc (.row (cells.take off ++ vs ++ cells.drop (off + vs.length)) v v frz false tt)) else none
  | _ => none
/-- A new row. -/
def mkRow (h : Heap) (cells : List AV) (t : TypeId) : Heap := h ++ [Blk.row cells 0 0 0 false (some t)]

section
variable {P : Program} {G G' : Gh} {B : Nat} {h h' : Heap} {w w' : World}

theorem rd_sound {loc off ver lim n : Nat} {xs : List AV} {r : Ver} (hr : HR G B h w) (he : rd h loc off ver lim n = some xs) (ha : G.at loc ver = some r) (h1 : r.lo ≤ off) (h2 : lim ≤ r.top) :
    ∃ us, VL G xs us ∧ us.length = n ∧ ∀ (j : Nat) (u : Value), us[j]? = some u → w.cell? ⟨r.b, off + r.sh - r.lo + j, none⟩ = some u := by
  obtain ⟨b, vs, hb, hg, hv, hR⟩ := hr.get ha
  unfold rd at he
  rw [hb] at he
  cases b with
  | row cells ver' minv frz ro tt =>
    simp only at he
    split at he
    · rename_i hc
      cases he
      rcases hR with rfl | hR
      · simp at hv
      obtain ⟨c, T, fr, q1, qt, q2, q3, q4⟩ := hR.cell ver r hv hc.1
      have ht := hR.tops ver r hv
      rw [hR.sh0 ver r hv, Nat.add_zero]
      refine ⟨(c.toList.drop (off - r.lo)).take n, ?_, ?_, ?_⟩
      · refine VL.of_get ?_ fun i x u hx hu => ?_
        · simp only [List.length_take, List.length_drop, Array.length_toList]; omega
        · rw [List.getElem?_take] at hx hu
          split at hx
          · rename_i hi
            rw [if_pos hi] at hu
            rw [List.getElem?_drop] at hx hu
            obtain ⟨x', u', e1, e2, e3⟩ := q4 (off + i) (by omega) (by omega)
            rw [e1] at hx; cases hx
            rw [show off + i - r.lo = off - r.lo + i from by omega] at e2
            rw [Array.getElem?_toList, e2] at hu; cases hu
            exact e3
          · cases hx
      · simp only [List.length_take, List.length_drop, Array.length_toList]; omega
      · intro j u hu
        rw [List.getElem?_take] at hu
        split at hu
        · rw [List.getElem?_drop, Array.getElem?_toList] at hu
          unfold World.cell?
          simp only [q1, Option.isSome_none, Bool.false_eq_true, if_false]
          exact hu
        · cases hu
    · cases he
  | lay cells =>
    simp only at he
    split at he
    · rename_i hc
      cases he
      rcases hR with rfl | ⟨r0, rfl, hl, ht, c, T, fr, q1, q2, q3, q4⟩
      · simp at hv
      have hr0 : r = r0 := by
        cases ver with
        | zero => simp at hv; exact hv.symm
        | succ v => simp at hv
      subst hr0
      rw [hl, Nat.sub_zero]
      refine ⟨(c.toList.drop (off + r.sh)).take n, ?_, ?_, ?_⟩
      · refine VL.of_get ?_ fun i x u hx hu => ?_
        · simp only [List.length_take, List.length_drop, Array.length_toList]; omega
        · rw [List.getElem?_take] at hx hu
          split at hx
          · rename_i hi
            rw [if_pos hi] at hu
            rw [List.getElem?_drop] at hx hu
            obtain ⟨x', u', e1, e2, e3⟩ := q4 (off + i) (by omega)
            rw [show off + i + r.sh = off + r.sh + i from by omega] at e2
            rw [e1] at hx; cases hx
            rw [Array.getElem?_toList, e2] at hu; cases hu
            exact e3
          · cases hx
      · simp only [List.length_take, List.length_drop, Array.length_toList]; omega
      · intro j u hu
        rw [List.getElem?_take] at hu
        split at hu
        · rw [List.getElem?_drop, Array.getElem?_toList] at hu
          unfold World.cell?
          simp only [q1, Option.isSome_none, Bool.false_eq_true, if_false]
          exact hu
        · cases hu
    · cases he
  | map es => simp at he
  | iter s pos => simp at he
  | dead => simp at he
  | loop env ps asg body st pd => simp at he
  | dfr => simp at he
  | miter m => simp at he
  | gone => simp at he

theorem run_storeCells_at (b off : Nat) (T : TypeId) (fr : Nat × Nat) : ∀ (vs : List Value) (i : Nat) (cells : List Value) (w : World), w.heap[b]? = some (.cells cells.toArray T fr) → (∀ j, off ≤ j → j < cells.length → ¬ (fr.1 ≤ j ∧ j < fr.2)) →
    off + i + vs.length ≤ cells.length → (∀ u ∈ vs, u.oneCell' = true) →
    ∃ w', (storeCells ⟨b, off, none⟩ vs i).run P w = .ok () w' ∧ w'.heap[b]? = some (.cells (cells.take (off + i) ++ vs ++ cells.drop (off + i + vs.length)).toArray T fr) ∧ w'.heap.size = w.heap.size ∧ w'.os = w.os ∧ w'.tape = w.tape ∧ w'.output = w.output ∧
      ∀ k, k ≠ b → w'.heap[k]? = w.heap[k]?
  | [], i, cells, w, hb, _, _, _ => by
    refine ⟨w, by simp [storeCells], by simpa using hb, rfl, rfl, rfl, rfl, fun _ _ => rfl⟩
  | v :: vs, i, cells, w, hb, hfz, hl, h1 => by
    have hil : off + i < cells.length := by simp at hl; omega
    have hcell : w.cell? ⟨b, off + i, none⟩ = some cells[off + i] := by
      rw [cell_of_row w b (off + i) _ _ _ hb]; simp
    have hfr : w.frozen? ⟨b, off + i, none⟩ = false := by
      have := hfz (off + i) (by omega) hil
      simp only [World.frozen?, hb]
      simpa using this
    have hs := run_store P w ⟨b, off + i, none⟩ v .plain (h1 v (by simp))
    have hst : (store ⟨b, off + i, none⟩ v).run P w = .ok () (w.setCell ⟨b, off + i, none⟩ v) := by rw [hs]; simp [hcell, hfr]
    have hb2 : (w.setCell ⟨b, off + i, none⟩ v).heap[b]? = some (.cells (cells.set (off + i) v).toArray T fr) := by
      simp [World.setCell, Array.getElem?_modify, hb]
    obtain ⟨w', hr, hb', hsz, ho, ht, hu, hk⟩ := run_storeCells_at b off T fr vs (i + 1) (cells.set (off + i) v) _ hb2 (by simpa using hfz) (by simp at hl ⊢; omega) (fun u hu => h1 u (by simp [hu]))
    refine ⟨w', ?_, ?_, by rw [hsz]; simp, ho, ht, hu, fun k hk' => (hk k hk').trans (heap_setCell_other _ _ _ _ hk')⟩
    · simp only [storeCells, Addr.add_lit, Sem.run_bind, hst, Result.andThen_ok, hr]
    · rw [hb']
      congr 3
      simp only [List.length_cons] at hl ⊢
      rw [show off + (i + 1) = off + i + 1 from by omega, List.take_add_one, List.take_set_of_le (by omega), List.getElem?_set_self (by omega), List.drop_set_of_lt (by omega)]
      simp; congr 1; omega

theorem VL.one {vs : List AV} {us : List Value} (hv : VL G vs us) (h1 : vs.all AV.one = true) : ∀ u ∈ us, u.oneCell' = true := by
  induction vs generalizing us with
  | nil => cases hv; simp
  | cons x vs ih =>
    cases hv with
    | cons hx t =>
      simp at h1
      intro u hu
      rcases List.mem_cons.1 hu with rfl | hu
      · exact hx.one h1.1
      · exact ih t (by simpa using h1.2) u hu

theorem set_same {α : Type} {l : List α} {i : Nat} {x : α} (h : l[i]? = some x) : l.set i x = l := by
  obtain ⟨hl, rfl⟩ := List.getElem?_eq_some_iff.1 h
  exact List.set_getElem_self hl

/-- Cells of the newest version of a row are written (behind its end: with room). -/
theorem row_write {cells : List AV} {ver minv frz : Nat} {tt : Option TypeId} {vs : List Ver} {r : Ver} {c : Array Value} {T : TypeId} {fr : Nat × Nat} {off : Nat} {us : List Value} {c' : Array Value}
    (hR : RowR G w cells ver minv frz tt vs) (hv : vs[ver]? = some r) (h1 : r.lo ≤ off) {xs : List AV} (hx : VL G xs us) (hend : off + xs.length ≤ cells.length)
    (hc : w.heap[r.b]? = some (.cells c T fr)) (hb : w'.heap[r.b]? = some (.cells c' T fr)) (hc' : c'.toList = c.toList.take (off - r.lo) ++ us ++ c.toList.drop (off - r.lo + us.length)) :
    RowR G w' (cells.take off ++ xs ++ cells.drop (off + xs.length)) ver ver frz tt vs := by
  obtain ⟨c0, T0, fr0, q1, qt, q2, q3, q4⟩ := hR.cell ver r hv hR.minv_le
  rw [hc] at q1
  cases q1
  obtain ⟨ht, c1, T1, fr1, q5, q6, q7, q8⟩ := hR.tip r hv
  rw [hc] at q5
  cases q5
  have hul := hx.length
  have hlen : (cells.take off ++ xs ++ cells.drop (off + xs.length)).length = cells.length := by simp; omega
  have hsz : c'.size = c.size := by
    rw [← Array.length_toList, hc', ← Array.length_toList]
    simp only [List.length_append, List.length_take, List.length_drop, Array.length_toList]
    omega
  refine ⟨hR.len, fun v r' hv' hm => ?_, fun r' hv' => ?_, fun v r' hv' => by rw [hlen]; exact hR.tops v r' hv', hR.same, Nat.le_refl _, hR.sh0, by rw [hlen]; exact hR.frz_le⟩
  · have : v = ver := by
      have := (List.getElem?_eq_some_iff.1 hv').1
      have := hR.len; omega
    subst this
    rw [hv] at hv'; cases hv'
    refine ⟨c', T, fr, hb, qt, by rw [hsz]; exact q2, q3, fun p hp hp' => ?_⟩
    have hcp : ∀ j, c'[j]? = c'.toList[j]? := fun j => by rw [Array.getElem?_toList]
    rw [hcp, hc']
    by_cases ha : p < off
    · obtain ⟨x, u, e1, e2, e3⟩ := q4 p hp (by omega)
      refine ⟨x, u, ?_, ?_, e3⟩
      · rw [List.append_assoc, List.getElem?_append_left (by simp; omega), List.getElem?_take_of_lt ha]; exact e1
      · rw [List.append_assoc, List.getElem?_append_left (by simp; omega), List.getElem?_take_of_lt (by omega), Array.getElem?_toList]; exact e2
    · by_cases hb' : p < off + xs.length
      · have hpx : p - off < xs.length := by omega
        obtain ⟨u, e1, e2⟩ := hx.get (List.getElem?_eq_getElem hpx)
        refine ⟨_, u, ?_, ?_, e2⟩
        · rw [List.append_assoc, List.getElem?_append_right (by simp; omega)]
          simp only [List.length_take]
          rw [List.getElem?_append_left (by omega), show p - min off cells.length = p - off from by omega]
          exact List.getElem?_eq_getElem hpx
        · rw [List.append_assoc, List.getElem?_append_right (by simp; omega)]
          simp only [List.length_take, Array.length_toList]
          rw [List.getElem?_append_left (by omega), show p - r.lo - min (off - r.lo) c.size = p - off from by omega]
          exact e1
      · obtain ⟨x, u, e1, e2, e3⟩ := q4 p hp hp'
        refine ⟨x, u, ?_, ?_, e3⟩
        · rw [List.getElem?_append_right (by simp; omega), List.getElem?_drop]
          simp only [List.length_append, List.length_take]
          rw [show off + xs.length + (p - (min off cells.length + xs.length)) = p from by omega]; exact e1
        · rw [List.getElem?_append_right (by simp; omega), List.getElem?_drop]
          simp only [List.length_append, List.length_take, Array.length_toList]
          rw [show off - r.lo + us.length + (p - r.lo - (min (off - r.lo) c.size + us.length)) = p - r.lo from by omega, Array.getElem?_toList]; exact e2
  · rw [hv] at hv'; cases hv'
    refine ⟨by rw [hlen]; exact ht, c', T, fr, hb, q6, (fun j hj hjc => q7 j hj (by omega)), q8⟩

theorem wr_sound {loc off ver lim : Nat} {xs : List AV} {us : List Value} {r : Ver} (hr : HR G B h w) (he : wr h loc off ver lim xs = some h') (ha : G.at loc ver = some r) (h1 : r.lo ≤ off) (h2 : lim ≤ r.top) (hx : VL G xs us) :
    ∃ w', (storeCells ⟨r.b, off + r.sh - r.lo, none⟩ us).run P w = .ok () w' ∧ Step G G B h' w w' := by
  obtain ⟨b, vs, hb, hg, hv, hR⟩ := hr.get ha
  unfold wr at he
  rw [hb] at he
  cases b with
  | row cells ver' minv frz ro tt =>
    cases ro with
    | true => simp at he
    | false =>
      simp only at he
      split at he
      · rename_i hc
        obtain ⟨rfl, hf, hl, hone⟩ := hc
        cases he
        rcases hR with rfl | hR
        · simp at hv
        obtain ⟨c, T, fr, q1, qt, q2, q3, q4⟩ := hR.cell ver r hv hR.minv_le
        obtain ⟨ht, c1, T1, fr1, q5, q6, q7, q8⟩ := hR.tip r hv
        rw [q1] at q5; cases q5
        have hul := hx.length
        rw [hR.sh0 ver r hv, Nat.add_zero]
        obtain ⟨w', hrun, hb', hsz, ho, htp, hu, hk⟩ := run_storeCells_at (P := P) r.b (off - r.lo) T fr us 0 c.toList w (by simpa using q1) (fun j hj hjc => q7 j (by omega) (by simpa using hjc)) (by simp; omega) (hx.one hone)
        refine ⟨w', hrun, ?_⟩
        have hS := Step.upd (vs' := vs) (blk' := .row (cells.take off ++ xs ++ cells.drop (off + xs.length)) ver ver frz false tt) hr hb hg rfl rfl ⟨ver, r, hv, rfl⟩ (Nat.le_of_eq hsz.symm) (fun k _ => hk k) ho htp hu (fun _ _ h => h) (fun v r' h => .inr ⟨v, r', h, rfl⟩)
          (fun _ => .inr (by
            rw [set_same hg]
            exact row_write hR hv h1 hx (by omega) q1 hb' (by simp)))
        rw [set_same hg] at hS
        exact hS
      · cases he
  | lay cells => simp at he
  | map es => simp at he
  | iter s pos => simp at he
  | dead => simp at he
  | loop env ps asg body st pd => simp at he
  | dfr => simp at he
  | miter m => simp at he
  | gone => simp at he

/-- A new row. -/
theorem Step.newRowT {cells : List AV} {us : List Value} {c : Array Value} {T : TypeId} {fr : Nat × Nat} {tt : Option TypeId} (htt : ∀ t, tt = some t → T = t) (hf0 : tt.isSome = true → fr.1 = fr.2) (hr : HR G B h w) (hx : VL G cells us) (hc : ∀ p, p < cells.length → c[p]? = us[p]?) (hfr : fr.1 ≤ fr.2 ∧ ∀ j, j < c.size → ¬ (fr.1 ≤ j ∧ j < fr.2))
    (hw : w'.heap[w.heap.size]? = some (.cells c T fr)) (hs : w.heap.size < w'.heap.size) (hb : ∀ b, b < w.heap.size → w'.heap[b]? = w.heap[b]?) (h1 : w'.os = w.os) (h2 : w'.tape = w.tape) (h3 : w'.output = w.output) :
    Step G (G ++ [[⟨w.heap.size, 0, cells.length, c.size, 0⟩]]) B (h ++ [Blk.row cells 0 0 0 false tt]) w w' := by
  have hcs : cells.length ≤ c.size := by
    by_cases h0 : cells.length = 0
    · omega
    · have := hc (cells.length - 1) (by omega)
      rw [List.getElem?_eq_getElem (by rw [hx.length]; omega)] at this
      have := (Array.getElem?_eq_some_iff.1 this).1
      omega
  refine Step.push (blk := .row cells 0 0 0 false tt) hr rfl (Nat.le_of_lt hs) hb h1 h2 h3 (fun v r hv => ?_) (Or.inr ⟨rfl, fun v r hv _ => ?_, fun r hv => ?_, fun v r hv => ?_, fun v1 v2 r1 r2 e1 e2 _ => ?_, Nat.le_refl _, fun v r hv => (by cases v with | zero => simp at hv; rw [← hv] | succ v => simp at hv), by simp⟩)
  · cases v with
    | zero => simp at hv; subst hv; exact ⟨Nat.le_refl _, hs⟩
    | succ v => simp at hv
  · cases v with
    | zero =>
      simp at hv; subst hv
      refine ⟨c, T, fr, hw, htt, rfl, by simpa using hcs, fun p _ hp => ?_⟩
      have hp' : p < cells.length := hp
      obtain ⟨u, e1, e2⟩ := hx.get (List.getElem?_eq_getElem hp')
      exact ⟨_, u, List.getElem?_eq_getElem hp', by rw [Nat.sub_zero, hc p hp', e1], e2.le (Gh.le_push _ _)⟩
    | succ v => simp at hv
  · simp at hv; subst hv
    exact ⟨rfl, c, T, fr, hw, hfr.1, fun j _ hj => hfr.2 j hj, fun e => .inl (hf0 e)⟩
  · cases v with
    | zero => simp at hv; subst hv; simp
    | succ v => simp at hv
  · cases v1 <;> cases v2 <;> simp at e1 e2
    subst e1; subst e2; rfl
theorem Step.newRow {cells : List AV} {us : List Value} {c : Array Value} {T : TypeId} (hr : HR G B h w) (hx : VL G cells us) (hc : ∀ p, p < cells.length → c[p]? = us[p]?)
    (hw : w'.heap[w.heap.size]? = some (.cells c T (0, 0))) (hs : w.heap.size < w'.heap.size) (hb : ∀ b, b < w.heap.size → w'.heap[b]? = w.heap[b]?) (h1 : w'.os = w.os) (h2 : w'.tape = w.tape) (h3 : w'.output = w.output) :
    Step G (G ++ [[⟨w.heap.size, 0, cells.length, c.size, 0⟩]]) B (mkRow h cells T) w w' :=
  Step.newRowT (fun t e => Option.some.inj e) (fun _ => rfl) hr hx hc ⟨Nat.le_refl _, fun j _ q => by omega⟩ hw hs hb h1 h2 h3
theorem at_new {vs : List Ver} {v : Nat} : (G ++ [vs]).at G.length v = vs[v]? := by unfold Gh.at; rw [List.getElem?_append_right (by omega)]; simp
end
end Go.Mx
