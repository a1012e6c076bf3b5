/- M's append. -/
import Derived.Test.YtflgkiddnmpfbaaGreatDoorMxB
import Derived.Test.YtflgkiddnmpfbaaGreatDoorGxO
namespace Go.Mx
open Go Go.Gx

/-- k elements of sz cells (xs) behind a slice. -/
def app (h : Heap) (el : TypeId) (s : AV) (sz : Nat) (xs : List AV) (k : Nat) : Option (AV × Heap) :=
  if xs.all AV.one = true ∧ xs.length = k * sz ∧ 0 < sz then
    match s with
    | .nils => if k = 0 then some (.nils, h) else if k < 549755813888 then some (.sl h.length 0 k sz 0 false, mkRow h xs el) else none
    | .sl loc off len sz' ver clip =>
      if sz' = sz ∧ len + k < 549755813888 then
        if k = 0 then some (s, h) else
        if clip then (rd h loc off ver (off + len * sz) (len * sz)).bind fun old => some (.sl h.length 0 (len + k) sz 0 false, mkRow h (old ++ xs) el)
        else match h[loc]? with
          | some (.row cells v minv frz false tt) =>
            if ver = v then
              if off + len * sz = cells.length then some (.sl loc off (len + k) sz (v + 1) false, h.set loc (.row (cells ++ xs) (v + 1) minv frz false (if tt = some el then tt else none)))
              else if off + len * sz + k * sz ≤ cells.length ∧ frz ≤ off + len * sz then
                some (.sl loc off (len + k) sz v false, h.set loc (.row (cells.take (off + len * sz) ++ xs ++ cells.drop (off + len * sz + xs.length)) v v frz false tt))
              else none
            else none
          | _ => none
      else none
    | _ => none
  else none

section
variable {P : Program} {G G' : Gh} {B : Nat} {h h' : Heap} {w w' : World}

theorem mul_cancel {a b c z : Nat} (hz : 0 < z) (h : a * z + b * z ≤ c * z) : a + b ≤ c := by
  rw [← Nat.add_mul] at h; exact Nat.le_of_mul_le_mul_right h hz

/-- A new version of a row: in its block, behind the filled part. -/
theorem row_in {cells : List AV} {ver minv frz : Nat} {tt tt' : Option TypeId} (htt : ∀ t, tt' = some t → tt = some t) {vs : List Ver} {r : Ver} {c : Array Value} {T : TypeId} {fr : Nat × Nat} {us : List Value} {c' : Array Value} {G' : Gh}
    (hR : RowR G w cells ver minv frz tt vs) (hv : vs[ver]? = some r) {xs : List AV} (hx : VL G xs us) (hroom : cells.length + xs.length ≤ r.lo + r.size) (hG : G.le G')
    (hc : w.heap[r.b]? = some (.cells c T fr)) (hb : w'.heap[r.b]? = some (.cells c' T fr)) (ho : ∀ k, k < w.heap.size → k ≠ r.b → w'.heap[k]? = w.heap[k]?) (hlt : ∀ (v : Nat) (r : Ver), vs[v]? = some r → r.b < w.heap.size)
    (hc' : c'.toList = c.toList.take (cells.length - r.lo) ++ us ++ c.toList.drop (cells.length - r.lo + us.length)) :
    RowR G' w' (cells ++ xs) (ver + 1) minv frz tt' (vs ++ [{ r with top := cells.length + xs.length }]) := by
  obtain ⟨c0, T0, fr0, q1, qt, q2, q3, q4⟩ := hR.cell ver r hv hR.minv_le
  rw [hc] at q1
  cases q1
  obtain ⟨ht, c1, T1, fr1, q5, q6, q7, q8⟩ := hR.tip r hv
  rw [hc] at q5
  cases q5
  have hul := hx.length
  have htops := hR.tops _ _ hv
  have hsz : c'.size = c.size := by
    rw [← Array.length_toList, hc', ← Array.length_toList]
    simp only [List.length_append, List.length_take, List.length_drop, Array.length_toList]
    omega
  have hcp : ∀ j, c'[j]? = c'.toList[j]? := fun j => by rw [Array.getElem?_toList]
  have hlow : ∀ j, j < cells.length - r.lo → c'[j]? = c[j]? := fun j hj => by
    rw [hcp, hc', List.append_assoc, List.getElem?_append_left (by simp; omega), List.getElem?_take_of_lt hj, Array.getElem?_toList]
  have hget : ∀ (v : Nat) (r' : Ver), (vs ++ [{ r with top := cells.length + xs.length }])[v]? = some r' → (vs[v]? = some r' ∧ v ≤ ver) ∨ (v = ver + 1 ∧ r' = { r with top := cells.length + xs.length }) := by
    intro v r' h
    rw [List.getElem?_append] at h
    split at h
    · have := (List.getElem?_eq_some_iff.1 h).1
      exact .inl ⟨h, by have := hR.len; omega⟩
    · rename_i hlt
      cases hd : v - vs.length with
      | zero =>
        rw [hd] at h
        exact .inr ⟨by have := hR.len; omega, by simpa using h.symm⟩
      | succ n => rw [hd] at h; simp at h
  refine ⟨by simp [hR.len], fun v r' hv' hm => ?_, fun r' hv' => ?_, fun v r' hv' => ?_, fun v1 v2 r1 r2 e1 e2 he => ?_, by have := hR.minv_le; omega, fun v r' hv' => (by
    rcases hget v r' hv' with ⟨h, _⟩ | ⟨_, rfl⟩
    · exact hR.sh0 _ _ h
    · have h := hR.sh0 ver r hv
      exact h), by have := hR.frz_le; simp; omega⟩
  · rcases hget v r' hv' with ⟨hv', hle⟩ | ⟨rfl, rfl⟩
    · obtain ⟨c2, T2, fr2, p1, pt, p2, p3, p4⟩ := hR.cell v r' hv' hm
      have htr := hR.tops _ _ hv'
      by_cases hbb : r'.b = r.b
      · have hlo := hR.same _ _ _ _ hv' hv hbb
        rw [hbb, hc] at p1
        cases p1
        refine ⟨c', T, fr, by rw [hbb]; exact hb, fun t e => pt t (htt t e), by omega, p3, fun p hp hp' => ?_⟩
        obtain ⟨x, u, e1, e2, e3⟩ := p4 p hp hp'
        exact ⟨x, u, by rw [List.getElem?_append_left (by omega)]; exact e1, by rw [hlow _ (by omega)]; exact e2, e3.le hG⟩
      · refine ⟨c2, T2, fr2, by rw [ho _ (hlt _ _ hv') hbb]; exact p1, fun t e => pt t (htt t e), p2, p3, fun p hp hp' => ?_⟩
        obtain ⟨x, u, e1, e2, e3⟩ := p4 p hp hp'
        exact ⟨x, u, by rw [List.getElem?_append_left (by omega)]; exact e1, e2, e3.le hG⟩
    · refine ⟨c', T, fr, hb, fun t e => qt t (htt t e), by simp [hsz, q2], by simpa using hroom, fun p hp hp' => ?_⟩
      simp only at hp hp'
      by_cases ha : p < cells.length
      · obtain ⟨x, u, e1, e2, e3⟩ := q4 p hp (by omega)
        exact ⟨x, u, by rw [List.getElem?_append_left ha]; exact e1, by show c'[p - r.lo]? = _; rw [hlow _ (by omega)]; exact e2, e3.le hG⟩
      · have hpx : p - cells.length < xs.length := by omega
        obtain ⟨u, e1, e2⟩ := hx.get (List.getElem?_eq_getElem hpx)
        refine ⟨_, u, by rw [List.getElem?_append_right (by omega)]; exact List.getElem?_eq_getElem hpx, ?_, e2.le hG⟩
        rw [hcp, hc', List.append_assoc, List.getElem?_append_right (by simp; omega)]
        simp only [List.length_take, Array.length_toList]
        rw [List.getElem?_append_left (by omega), show p - r.lo - min (cells.length - r.lo) c.size = p - cells.length from by omega]
        exact e1
  · rw [show ver + 1 = vs.length from hR.len.symm, List.getElem?_append_right (Nat.le_refl _)] at hv'
    simp at hv'; subst hv'
    exact ⟨by simp, c', T, fr, hb, q6, (fun j hj hjc => q7 j hj (by omega)), fun e => q8 (by obtain ⟨t, e⟩ := Option.isSome_iff_exists.1 e; rw [htt t e]; rfl)⟩
  · rcases hget v r' hv' with ⟨hv', hle⟩ | ⟨rfl, rfl⟩
    · have := hR.tops _ _ hv'; simp; omega
    · simp; omega
  · rcases hget v1 r1 e1 with ⟨h1, _⟩ | ⟨_, rfl⟩ <;> rcases hget v2 r2 e2 with ⟨h2, _⟩ | ⟨_, rfl⟩
    · exact hR.same _ _ _ _ h1 h2 he
    · exact (hR.same _ _ _ _ h1 hv he :)
    · exact (hR.same _ _ _ _ hv h2 he :)
    · rfl

/-- A new version of a row: in a new block, from off on. -/
theorem row_out {cells : List AV} {ver minv frz off nb : Nat} {tt tt' : Option TypeId} (htt : ∀ t, tt' = some t → tt = some t) {vs : List Ver} {us : List Value} {c' : Array Value} {T : TypeId} {fr : Nat × Nat} {G' : Gh}
    (hR : RowR G w cells ver minv frz tt vs) (hT : ∀ t, tt' = some t → T = t) {xs : List AV} (hx : VL G xs us) (h2 : off ≤ cells.length) (hG : G.le G') (hn : w.heap.size ≤ nb)
    (hb : w'.heap[nb]? = some (.cells c' T fr)) (hfr : fr.1 ≤ fr.2 ∧ ∀ j, j < c'.size → ¬ (fr.1 ≤ j ∧ j < fr.2)) (hf0 : fr.1 = fr.2) (ho : ∀ k, k < w.heap.size → w'.heap[k]? = w.heap[k]?) (hlt : ∀ (v : Nat) (r : Ver), vs[v]? = some r → r.b < w.heap.size)
    {olds : List Value} (hol : VL G (cells.drop off) olds) (hc' : ∀ (j : Nat) (u : Value), (olds ++ us)[j]? = some u → c'[j]? = some u) :
    RowR G' w' (cells ++ xs) (ver + 1) minv frz tt' (vs ++ [⟨nb, off, cells.length + xs.length, c'.size, 0⟩]) := by
  have hul := hx.length
  have hoo := hol.length
  simp only [List.length_drop] at hoo
  have hall : VL G (cells.drop off ++ xs) (olds ++ us) := hol.append hx
  have hget : ∀ (v : Nat) (r' : Ver), (vs ++ [(⟨nb, off, cells.length + xs.length, c'.size, 0⟩ : Ver)])[v]? = some r' → (vs[v]? = some r' ∧ v ≤ ver) ∨ (v = ver + 1 ∧ r' = ⟨nb, off, cells.length + xs.length, c'.size, 0⟩) := by
    intro v r' h
    rw [List.getElem?_append] at h
    split at h
    · have := (List.getElem?_eq_some_iff.1 h).1
      exact .inl ⟨h, by have := hR.len; omega⟩
    · rename_i hlt
      cases hd : v - vs.length with
      | zero =>
        rw [hd] at h
        exact .inr ⟨by have := hR.len; omega, by simpa using h.symm⟩
      | succ n => rw [hd] at h; simp at h
  have hsize : cells.length + xs.length ≤ off + c'.size := by
    by_cases h0 : olds.length + us.length = 0
    · omega
    · have hj : (olds ++ us).length - 1 < (olds ++ us).length := by rw [List.length_append]; omega
      have := hc' _ _ (List.getElem?_eq_getElem hj)
      have hq := (Array.getElem?_eq_some_iff.1 this).1
      rw [List.length_append] at hq
      omega
  refine ⟨by simp [hR.len], fun v r' hv' hm => ?_, fun r' hv' => ?_, fun v r' hv' => ?_, fun v1 v2 r1 r2 e1 e2 he => ?_, by have := hR.minv_le; omega, fun v r' hv' => (by
    rcases hget v r' hv' with ⟨h, _⟩ | ⟨_, rfl⟩
    · exact hR.sh0 _ _ h
    · rfl), by have := hR.frz_le; simp; omega⟩
  · rcases hget v r' hv' with ⟨hv', hle⟩ | ⟨rfl, rfl⟩
    · obtain ⟨c2, T2, fr2, p1, pt, p2, p3, p4⟩ := hR.cell v r' hv' hm
      have htr := hR.tops _ _ hv'
      refine ⟨c2, T2, fr2, by rw [ho _ (hlt _ _ hv')]; exact p1, fun t e => pt t (htt t e), p2, p3, fun p hp hp' => ?_⟩
      obtain ⟨x, u, e1, e2, e3⟩ := p4 p hp hp'
      exact ⟨x, u, by rw [List.getElem?_append_left (by omega)]; exact e1, e2, e3.le hG⟩
    · refine ⟨c', T, fr, hb, hT, rfl, hsize, fun p hp hp' => ?_⟩
      simp only at hp hp'
      have hp2 : p - off < (cells.drop off ++ xs).length := by simp; omega
      obtain ⟨u, e1, e2⟩ := hall.get (List.getElem?_eq_getElem hp2)
      refine ⟨_, u, ?_, hc' _ _ e1, e2.le hG⟩
      rw [← List.getElem?_eq_getElem hp2]
      by_cases ha : p < cells.length
      · rw [List.getElem?_append_left ha, List.getElem?_append_left (by simp; omega), List.getElem?_drop]; congr 1; omega
      · rw [List.getElem?_append_right (by omega), List.getElem?_append_right (by simp; omega)]; congr 1; simp; omega
  · rw [show ver + 1 = vs.length from hR.len.symm, List.getElem?_append_right (Nat.le_refl _)] at hv'
    simp at hv'; subst hv'
    exact ⟨by simp, c', T, fr, hb, hfr.1, (fun j _ hj => hfr.2 j hj), fun _ => .inl hf0⟩
  · rcases hget v r' hv' with ⟨hv', hle⟩ | ⟨rfl, rfl⟩
    · have := hR.tops _ _ hv'; simp; omega
    · simp; omega
  · rcases hget v1 r1 e1 with ⟨h1, _⟩ | ⟨_, rfl⟩ <;> rcases hget v2 r2 e2 with ⟨h2, _⟩ | ⟨_, rfl⟩
    · exact hR.same _ _ _ _ h1 h2 he
    · have := hlt _ _ h1; simp at he; omega
    · have := hlt _ _ h2; simp at he; omega
    · rfl

theorem tt_keep {tt : Option TypeId} {e : TypeId} : ∀ t, (if tt = some e then tt else none) = some t → tt = some t := by
  intro t h
  split at h
  · exact h
  · cases h
theorem tt_new {tt : Option TypeId} {e : TypeId} : ∀ t, (if tt = some e then tt else none) = some t → e = t := by
  intro t h
  split at h
  · rename_i he; rw [he] at h; exact Option.some.inj h
  · cases h
theorem at_upd {vs : List Ver} {loc v : Nat} (hl : loc < G.length) : Gh.at (G.set loc vs) loc v = vs[v]? := by unfold Gh.at; rw [List.getElem?_set_self hl]; rfl
end
end Go.Mx
