/- Literals, conversions, parts of slices. -/
import Derived.Test.YtfkgbpkgggaphaaGreatDoorGxG
import Derived.Laws.IdiomStrings
namespace Go.Gx
open Go

def rUnit : Rp Unit where
  sz := 0
  rel _ _ cs _ := cs = []
  len h := by subst h; rfl
  one h u hu := by subst h; simp at hu
  mono h _ _ _ := h

section
variable {P : Program} {n : Nat} {Q : Exit → Env → World → Prop} {ρ : Env} {w w' : World} {ops : Array Oper} {rest : List Oper} {d : Nat} {ty : TypeId} {pos : String} {after : Array Edge}
  {x y c : Operand} {t t' : TypeId} {O0 K O : List Nat} {w0 : World} {L : List Fact} {τ : Type} {r : Rp τ}

theorem Ctx.newRow (h : Ctx O0 K w0 O w L) {f : Fact} (hf : f.own = [w.heap.size]) (k : Keep [] w w') (hs : w.heap.size < w'.heap.size) (hh : f.holds (w.heap.size :: O) w') :
    Ctx O0 K w0 (w.heap.size :: O) w' (f :: L) :=
  (h.imm (r := rUnit) (cs := []) (x := ()) rfl).renew (i := 0) (by simp) hf k hs hh

/-- New cells, as a slice that is read. -/
theorem sl_new {cur : Array Value} {T : TypeId} {fr : Nat × Nat} {l : List τ} {xs : List Value} {cap g : Nat} (hg : w.heap[g]? = some (.cells cur T fr)) (hgO : g ∉ O) (hr : RelList r O w xs l) (hc : l.length ≤ cap) (htake : cur.toList.take xs.length = xs) :
    r.sl.rel O w [.slice (some ⟨g, 0, none⟩) l.length cap] l := by
  refine ⟨_, _, xs, rfl, hc, hr, .inr ⟨g, 0, rfl, (Array.getElem?_eq_some_iff.1 hg).1, hgO, fun j u hu => ?_⟩⟩
  rw [Nat.zero_add, cell_of_row w g j cur T fr hg]
  rw [← htake, List.getElem?_take] at hu
  split at hu
  · simpa using hu
  · cases hu

theorem relBytes (O : List Nat) (w : World) : ∀ (l : List UInt8), RelList rU8 O w (l.map fun c => .int .u8 c.toNat) l
  | [] => .nil
  | c :: l => RelList.cons (r := rU8) (c := [.int .u8 c.toNat]) rfl (relBytes O w l)

theorem WL_strBytes {e : TypeId} {s : List UInt8} (hC : Ctx O0 K w0 O w L) (hs : P.underlying t = some .string) (hd' : P.underlying t' = some (.slice e)) (he : P.underlying e = some (.int .u8)) (hd : d < n) (hx : ev ρ x = vstr s)
    (h : ∀ w' a cp, Ctx O0 K w0 O w' (.imm rU8.sl [.slice a s.length cp] s :: L) → WL P n ops rest Q (upd ρ d (.slice a s.length cp)) w') :
    WL P n ops (⟨some d, .convert t t' x, ty, pos, after, none⟩ :: rest) Q ρ w := by
  have hrun := run_bytes_of_string (P := P) w t t' e ⟨s.toArray⟩ hs hd' he
  rw [size_mk] at hrun
  have hk : Keep [] w (w.drew.alloc (.cells (bytesRow ⟨s.toArray⟩ (grownCap w s.length 0 e)) e ((bytesRow ⟨s.toArray⟩ (grownCap w s.length 0 e)).size, (bytesRow ⟨s.toArray⟩ (grownCap w s.length 0 e)).size + 1))) := Keep.drewAlloc _ _
  refine WL_value hd ?_ (h _ (some ⟨w.heap.size, 0, none⟩) (grownCap w s.length 0 e) ((hC.call hk).imm ?_))
  · intros
    simp only [execOp, hx, vstr, Sem.run_bind, hrun, Result.andThen_ok, Sem.run_pure]
  · refine sl_new (heap_alloc_new w.drew _) (fun hm => by have := hC.lt _ hm; omega) (relBytes _ _ s) (grownCap_ge w s.length 0 e) ?_
    simp [bytesRow]

theorem WL_strBytesRow {e : TypeId} {s : List UInt8} (hl : s.length < 549755813888) (hC : Ctx O0 K w0 O w L) (hs : P.underlying t = some .string) (hd' : P.underlying t' = some (.slice e)) (he : P.underlying e = some (.int .u8)) (hd : d < n) (hx : ev ρ x = vstr s)
    (h : ∀ O' w' a cp, Ctx O0 K w0 O' w' (.row rU8 e (.slice a s.length cp) s :: L) → WL P n ops rest Q (upd ρ d (.slice a s.length cp)) w') :
    WL P n ops (⟨some d, .convert t t' x, ty, pos, after, none⟩ :: rest) Q ρ w := by
  have hrun := run_bytes_of_string (P := P) w t t' e ⟨s.toArray⟩ hs hd' he
  rw [size_mk] at hrun
  have hk : Keep [] w (w.drew.alloc (.cells (bytesRow ⟨s.toArray⟩ (grownCap w s.length 0 e)) e ((bytesRow ⟨s.toArray⟩ (grownCap w s.length 0 e)).size, (bytesRow ⟨s.toArray⟩ (grownCap w s.length 0 e)).size + 1))) := Keep.drewAlloc _ _
  refine WL_value hd ?_ (h _ _ (some ⟨w.heap.size, 0, none⟩) (grownCap w s.length 0 e) (hC.newRow (by simp [Fact.own, Value.ownBlock]) hk (by simp) ?_))
  · intros
    simp only [execOp, hx, vstr, Sem.run_bind, hrun, Result.andThen_ok, Sem.run_pure]
  · have hge := grownCap_ge w s.length 0 e
    refine ⟨_, relBytes _ _ s, .inr ⟨w.heap.size, _, _, _, rfl, heap_alloc_new w.drew _, hge, grownCap_le_maxLen w _ 0 e (by simp only [maxLen]; omega), ?_, ?_, ?_⟩⟩
    · simp [bytesRow, rU8, Rp.flat, size_mk]; omega
    · simp [bytesRow, rU8, Rp.flat]
    · intro j hj h; simp at h; omega

theorem relBytes_inv {xs : List Value} {s : List UInt8} (hr : RelList rU8 O w xs s) : xs = s.map fun c => .int .u8 c.toNat := by
  induction hr with
  | nil => rfl
  | cons h2 _ ih => rw [ih, show _ = [_] from h2]; rfl
theorem WL_bytesStr {e : TypeId} {s : List UInt8} {a : Option Addr} {m cp : Nat} (hF : rU8.sl.rel O w [.slice a m cp] s) (hs : P.underlying t = some (.slice e)) (he : P.underlying e = some (.int .u8)) (hd' : P.underlying t' = some .string) (hd : d < n) (hx : ev ρ x = .slice a m cp)
    (h : WL P n ops rest Q (upd ρ d (vstr s)) w) : WL P n ops (⟨some d, .convert t t' x, ty, pos, after, none⟩ :: rest) Q ρ w := by
  obtain ⟨rfl, xs, hr, hor⟩ := sl_cells hF
  refine WL_value hd (w' := w) ?_ h
  intros
  have hb := relBytes_inv hr
  rcases hor with rfl | ⟨b, off, rfl, _, _, hc⟩
  · simp only [execOp, hx, Sem.run_bind]
    have : (convert t t' (.slice a 0 cp)).run P w = .ok (vstr []) w := by
      rw [run_convert_bytes_string w t t' e a 0 cp hs he hd']
      cases a <;> simp [Conv.bytesToString, loadCells, loadCellsFrom, vstr] <;> rfl
    rw [List.length_nil, this]; rfl
  · have := run_convert_bytes_back (P := P) w t t' e ⟨b, off, none⟩ cp s hs he hd' (fun j hj => by
      rw [Addr.add_lit]
      exact hc j _ (by rw [hb]; simp [hj]))
    simp only [execOp, hx, Sem.run_bind, this, Result.andThen_ok, Sem.run_pure, vstr]

theorem sl_cut {a : Option Addr} {m cp : Nat} {l l' : List τ} {lo hi : Int} (hF : r.sl.rel O w [.slice a m cp] l) (hc : cut l lo hi = some l') :
    0 ≤ lo ∧ lo ≤ hi ∧ hi ≤ m ∧ m ≤ cp ∧ ∃ a' cp', sliced a lo.toNat hi.toNat cp r.sz = .slice a' l'.length cp' ∧ r.sl.rel O w [.slice a' l'.length cp'] l' := by
  obtain ⟨h1, h2, h3, rfl⟩ := cut_some hc
  obtain ⟨a0, cap0, xs, hcs, hcap, hr, hor⟩ := hF
  simp only [List.cons.injEq, Value.slice.injEq, and_true] at hcs
  obtain ⟨rfl, rfl, rfl⟩ := hcs
  have hlen : ((l.drop lo.toNat).take (hi.toNat - lo.toNat)).length = hi.toNat - lo.toNat := by simp; omega
  refine ⟨h1, h2, h3, hcap, _, _, by unfold sliced; rw [hlen], ?_⟩
  refine ⟨_, _, (xs.drop (lo.toNat * r.sz)).take ((hi.toNat - lo.toNat) * r.sz), rfl, by omega, (hr.drop _).take _, ?_⟩
  rcases hor with rfl | ⟨b, off, rfl, hb, hbO, hcell⟩
  · left; simp
  · by_cases he : cp = lo.toNat
    · left
      exact List.length_eq_zero_iff.1 (by rw [hlen]; omega)
    · right
      refine ⟨b, off + lo.toNat * r.sz, by simp [he, Addr.add_lit], hb, hbO, fun j u hu => ?_⟩
      rw [List.getElem?_take] at hu
      split at hu
      · rw [List.getElem?_drop] at hu
        rw [Nat.add_assoc]
        exact hcell _ _ hu
      · cases hu

section slicing
variable {a : Option Addr} {m cp : Nat} {l l' : List τ} {lo hi : Int} {k k' : IntKind} {e : TypeId} {xl xh : Operand}
theorem WL_lslice (hc : cut l lo hi = some l') (hF : r.sl.rel O w [.slice a m cp] l) (ht : P.underlying t = some (.slice e)) (hz : ∀ w, (sizeOf e).run P w = .ok r.sz w) (hd : d < n) (hx : ev ρ x = .slice a m cp) (hl : ev ρ xl = .int k lo) (hh : ev ρ xh = .int k' hi)
    (h : ∀ a' cp', r.sl.rel O w [.slice a' l'.length cp'] l' → WL P n ops rest Q (upd ρ d (.slice a' l'.length cp')) w) : WL P n ops (⟨some d, .slice t x (some xl) (some xh) none, ty, pos, after, none⟩ :: rest) Q ρ w := by
  obtain ⟨h1, h2, h3, h4, a', cp', he, hF'⟩ := sl_cut hF hc
  refine WL_value hd (w' := w) ?_ (h a' cp' hF')
  intros
  have he' : P.elem t = e := by simp [Program.elem, ht]
  have ht' : P.underlying t = some (.slice (P.elem t)) := by rw [he', ht]
  simp only [execOp, Option.map, hx, hl, hh, Sem.run_bind, run_sliceAt_slice w t _ _ _ _ ht', run_slice_lh w t a m cp ht' k k' lo hi h1 h2 (by omega), he', hz, Result.andThen_ok, Sem.run_pure, he]
theorem WL_lslice_h (hc : cut l 0 hi = some l') (hF : r.sl.rel O w [.slice a m cp] l) (ht : P.underlying t = some (.slice e)) (hz : ∀ w, (sizeOf e).run P w = .ok r.sz w) (hd : d < n) (hx : ev ρ x = .slice a m cp) (hh : ev ρ xh = .int k' hi)
    (h : ∀ a' cp', r.sl.rel O w [.slice a' l'.length cp'] l' → WL P n ops rest Q (upd ρ d (.slice a' l'.length cp')) w) : WL P n ops (⟨some d, .slice t x none (some xh) none, ty, pos, after, none⟩ :: rest) Q ρ w := by
  obtain ⟨h1, h2, h3, h4, a', cp', he, hF'⟩ := sl_cut hF hc
  refine WL_value hd (w' := w) ?_ (h a' cp' hF')
  intros
  have he' : P.elem t = e := by simp [Program.elem, ht]
  have ht' : P.underlying t = some (.slice (P.elem t)) := by rw [he', ht]
  have he2 : sliced a 0 hi.toNat cp r.sz = .slice a' l'.length cp' := he
  simp only [execOp, Option.map, hx, hh, Sem.run_bind, run_sliceAt_slice w t _ _ _ _ ht', run_slice_h w t a m cp ht' k' hi h2 (by omega), he', hz, Result.andThen_ok, Sem.run_pure, he2]
theorem WL_lslice_l (hc : cut l lo l.length = some l') (hF : r.sl.rel O w [.slice a m cp] l) (ht : P.underlying t = some (.slice e)) (hz : ∀ w, (sizeOf e).run P w = .ok r.sz w) (hd : d < n) (hx : ev ρ x = .slice a m cp) (hl : ev ρ xl = .int k lo)
    (h : ∀ a' cp', r.sl.rel O w [.slice a' l'.length cp'] l' → WL P n ops rest Q (upd ρ d (.slice a' l'.length cp')) w) : WL P n ops (⟨some d, .slice t x (some xl) none none, ty, pos, after, none⟩ :: rest) Q ρ w := by
  have hm := (sl_cells hF).1
  obtain ⟨h1, h2, h3, h4, a', cp', he, hF'⟩ := sl_cut hF hc
  refine WL_value hd (w' := w) ?_ (h a' cp' hF')
  intros
  have he' : P.elem t = e := by simp [Program.elem, ht]
  have ht' : P.underlying t = some (.slice (P.elem t)) := by rw [he', ht]
  have he2 : sliced a lo.toNat m cp r.sz = .slice a' l'.length cp' := by rw [← he, hm]; rfl
  simp only [execOp, Option.map, hx, hl, Sem.run_bind, run_sliceAt_slice w t _ _ _ _ ht', run_slice_l w t a m cp ht' k lo h1 (by omega), he', hz, Result.andThen_ok, Sem.run_pure, he2]
end slicing
end
end Go.Gx
