/- Slices that a call makes: append, literals, conversions. -/
import Derived.Test.YtfkgbpkgggaphaaGreatDoorGxF
namespace Go.Gx
open Go

def app {α : Type} (l l2 : List α) : Option (List α) := if l.length + l2.length < 549755813888 then some (l ++ l2) else none
theorem app_some {α : Type} {l l2 l3 : List α} (h : app l l2 = some l3) : l3 = l ++ l2 ∧ l.length + l2.length < 549755813888 := by
  unfold app at h; split at h
  · cases h; exact ⟨rfl, by assumption⟩
  · cases h

theorem info_of_run {P : Program} {e : TypeId} {i : TypeInfo} (h : ∀ w, (typeInfo e).run P w = .ok i w) : P.info? e = some i := by
  have := h default
  simp only [typeInfo, Sem.run_bind, run_program, Result.andThen_ok] at this
  cases hi : P.info? e with
  | none => rw [hi] at this; simp at this
  | some j => rw [hi] at this; simp at this; rw [this]

section
variable {P : Program} {n : Nat} {Q : Exit → Env → World → Prop} {ρ : Env} {w w' : World} {ops : Array Oper} {rest : List Oper} {d : Nat} {ty : TypeId} {pos : String} {after : Array Edge}
  {x y c : Operand} {t t' : TypeId} {O0 K O : List Nat} {w0 : World} {L : List Fact} {τ : Type} {r : Rp τ}

/-- A fact on a new block takes the place of another. -/
theorem Ctx.renew (h : Ctx O0 K w0 O w L) {i : Nat} {f : Fact} (hi : i < L.length) (hf : f.own = [w.heap.size]) (k : Keep [] w w') (hs : w.heap.size < w'.heap.size) (hh : f.holds (w.heap.size :: O) w') :
    Ctx O0 K w0 (w.heap.size :: O) w' (L.set i f) := by
  have hset : L.set i f = L.take i ++ f :: L.drop (i + 1) := by rw [List.set_eq_take_append_cons_drop, if_pos hi]
  have hsub : (L.take i ++ L.drop (i + 1)).Sublist L := by
    conv => rhs; rw [← List.take_append_drop i L]
    exact List.Sublist.append (List.Sublist.refl _) (by rw [← List.drop_drop]; exact List.drop_sublist _ _)
  have h' := h.sublist hsub
  have hnd := h'.nodup
  rw [List.flatMap_append] at hnd
  have hlt : ∀ b, b ∈ (L.take i).flatMap Fact.own ++ (L.drop (i + 1)).flatMap Fact.own → b < w.heap.size := by
    intro b hb
    rw [← List.flatMap_append] at hb
    exact h.lt b (h'.own b hb).1
  refine ⟨fun b hb => List.mem_cons_of_mem _ (h.sub b hb), ?_, h.keep.trans (k.mono (by simp)), ?_, ?_, ?_⟩
  · intro b hb
    rcases List.mem_cons.1 hb with rfl | hb
    · exact hs
    · have := h.lt b hb; omega
  · rw [hset, List.flatMap_append, List.flatMap_cons, hf]
    obtain ⟨n1, n2, n3⟩ := List.nodup_append.1 hnd
    refine List.nodup_append.2 ⟨n1, ?_, ?_⟩
    · rw [List.singleton_append, List.nodup_cons]
      exact ⟨fun hm => by have := hlt _ (List.mem_append_right _ hm); omega, n2⟩
    · intro a ha b hb
      rcases List.mem_append.1 hb with hb | hb
      · simp at hb; subst hb
        have := hlt a (List.mem_append_left _ ha); omega
      · exact n3 a ha b hb
  · intro b hb
    rw [hset, List.flatMap_append, List.flatMap_cons, hf] at hb
    have hb' : b = w.heap.size ∨ b ∈ (L.take i).flatMap Fact.own ++ (L.drop (i + 1)).flatMap Fact.own := by
      rcases List.mem_append.1 hb with hb | hb
      · exact .inr (List.mem_append_left _ hb)
      · rcases List.mem_append.1 hb with hb | hb
        · left; simpa using hb
        · exact .inr (List.mem_append_right _ hb)
    rcases hb' with rfl | hb'
    · exact ⟨by simp, .inr h.keep.size⟩
    · rw [← List.flatMap_append] at hb'
      exact ⟨List.mem_cons_of_mem _ (h'.own b hb').1, (h'.own b hb').2⟩
  · intro g hg
    rw [hset] at hg
    have hg' : g = f ∨ g ∈ L.take i ++ L.drop (i + 1) := by
      rcases List.mem_append.1 hg with hg | hg
      · exact .inr (List.mem_append_left _ hg)
      · rcases List.mem_cons.1 hg with hg | hg
        · exact .inl hg
        · exact .inr (List.mem_append_right _ hg)
    rcases hg' with rfl | hg'
    · exact hh
    · refine Fact.mono (h'.facts g hg') (fun b hb hl => ?_) (fun b hb _ => k.block b hb (by simp)) k.size (fun b hb => k.block b (Fact.own_lt (h'.facts g hg') b hb) (by simp))
      rcases List.mem_cons.1 hb with rfl | hb
      · omega
      · exact hb

theorem Keep.drewAlloc (w : World) (o : Obj) : Keep [] w (w.drew.alloc o) := (Keep.drew [] w).trans (Keep.alloc [] _ _)

/-- What is read of a slice that is only read. -/
theorem sl_cells {a : Option Addr} {m cp : Nat} {l : List τ} (h : r.sl.rel O w [.slice a m cp] l) :
    m = l.length ∧ ∃ xs, RelList r O w xs l ∧ (l = [] ∨ ∃ b off, a = some ⟨b, off, none⟩ ∧ b < w.heap.size ∧ b ∉ O ∧ ∀ j u, xs[j]? = some u → w.cell? ⟨b, off + j, none⟩ = some u) := by
  obtain ⟨a', cap', xs, hcs, hcap, hrel, hor⟩ := h
  simp only [List.cons.injEq, Value.slice.injEq, and_true] at hcs
  obtain ⟨rfl, rfl, rfl⟩ := hcs
  exact ⟨rfl, xs, hrel, hor⟩

theorem append_row {e : TypeId} {i : TypeInfo} {z : Value} (ht : P.underlying t = some (.slice e)) (hi : ∀ w, (typeInfo e).run P w = .ok i w) (hz : i.zero = some z) (hsz : i.size = r.sz) (hzs : z.cells.size = r.sz) (hby : i.bytes ≤ 256) 
    {k : Nat} {a a2 : Option Addr} {m cp m2 cp2 : Nat} {l l2 l3 : List τ} (hC : Ctx O0 K w0 O w L) (hk : L[k]? = some (.row r e (.slice a m cp) l)) (hsrc : r.sl.rel O w [.slice a2 m2 cp2] l2) (happ : app l l2 = some l3) (ty : TypeId) :
    ∃ O' w' a' cp', (Builtin.append_ #[t, t] ty #[.slice a m cp, .slice a2 m2 cp2]).run P w = .ok (.slice a' l3.length cp') w' ∧ Ctx O0 K w0 O' w' (L.set k (.row r e (.slice a' l3.length cp') l3)) := by
  obtain ⟨rfl, hlen⟩ := app_some happ
  have hinfo := info_of_run hi
  have hkl : k < L.length := (List.getElem?_eq_some_iff.1 hk).1
  obtain ⟨rfl, xs2, hr2, hor⟩ := sl_cells hsrc
  obtain ⟨xs, hr, hv⟩ : OwnRow r e O w (.slice a m cp) l := hC.at hk
  have hl2 := hr2.length
  by_cases he : l2 = []
  · subst he
    cases hr2
    -- nothing is appended
    have hm : m = l.length := by
      rcases hv with ⟨h1, h2⟩ | ⟨g, cap, cur, fr, h1, _⟩
      · simp at h1; subst h2; simp [h1]
      · simp at h1; exact h1.2.1
    have hmc : m ≤ cp := by
      rcases hv with ⟨h1, h2⟩ | ⟨g, cap, cur, fr, h1, _, h3, _⟩
      · simp at h1; omega
      · simp at h1; obtain ⟨_, h5, h6⟩ := h1; omega
    subst hm
    refine ⟨O, w, a, cp, ?_, by
      rw [List.append_nil, show L.set k (.row r e (.slice a l.length cp) l) = L from by
        have := (List.getElem?_eq_some_iff.1 hk).2
        rw [← this]; exact List.set_getElem_self hkl]
      exact hC⟩
    have hf : ∀ (v : Value), (Builtin.firstCells i.size 0 (.slice a2 0 cp2)).run P w = .ok #[] w := by
      intro _; cases a2 <;> simp [Builtin.firstCells, loadCells, loadCellsFrom]
    have hf' := hf undef
    cases a <;> simp [Builtin.append_, run_underlying ht, sizeOf, typeInfo, hinfo, Builtin.lenOf, hmc, hf', storeCells]
  · obtain ⟨b2, off2, rfl, hb2, hb2O, hcell2⟩ := hor.resolve_left he
    have hl2pos : 0 < l2.length := List.length_pos_iff.2 he
    have hnews : ∀ j u, xs2[j]? = some u → w.cell? ((⟨b2, off2, none⟩ : Addr).add j) = some u := by intro j u hu; rw [Addr.add_lit]; exact hcell2 j u hu
    have hone := (hr2.one)
    have hgrow : ∀ (old : Nat), old < l.length + l2.length → (l.length + l2.length) * i.bytes ≤ 140737488355328 := by
      intro _ _
      have : (l.length + l2.length) * i.bytes ≤ 549755813888 * 256 := Nat.mul_le_mul (by omega) hby
      omega
    have hnew : ∀ (old : Nat), old < l.length + l2.length → (Fact.row r e (.slice (some ⟨w.heap.size, 0, none⟩) (l ++ l2).length (grownCap w (l.length + l2.length) old e)) (l ++ l2)).holds (w.heap.size :: O)
        (w.drew.alloc (.cells (xs.toArray ++ xs2.toArray ++ Builtin.zeroCells z.cells (grownCap w (l.length + l2.length) old e - (l.length + l2.length))) e)) := by
      intro old ho
      have hge := grownCap_ge w (l.length + l2.length) old e
      have hcm : grownCap w (l.length + l2.length) old e ≤ maxLen := grownCap_le_maxLen w _ old e (by simp only [maxLen]; omega)
      have hrl : RelList r (w.heap.size :: O) (w.drew.alloc (.cells (xs.toArray ++ xs2.toArray ++ Builtin.zeroCells z.cells (grownCap w (l.length + l2.length) old e - (l.length + l2.length))) e)) (xs ++ xs2) (l ++ l2) := by
        refine (hr.append hr2).mono (fun b hb hl => ?_) (fun b hb _ => (Keep.drewAlloc w _).block b hb (by simp)) (Keep.drewAlloc w _).size
        rcases List.mem_cons.1 hb with rfl | hb
        · omega
        · exact hb
      refine ⟨xs ++ xs2, hrl, .inr ⟨w.heap.size, _, _, (0, 0), rfl, heap_alloc_new w.drew _, by simpa using hge, hcm, ?_, ?_, by intro j _ h; omega⟩⟩
      · simp only [Array.size_append, List.size_toArray, size_zeroCells, hzs, hr.length, hr2.length, ← Nat.add_mul]
        congr 1; omega
      · have : (l ++ l2).length * r.sz = (xs ++ xs2).length := hrl.length.symm
        rw [this, Array.toList_append, Array.toList_append, List.take_append_of_le_length (by simp)]
        simp only [List.length_append]
        exact List.take_of_length_le (by simp)
    rcases hv with ⟨h1, h2⟩ | ⟨g, cap, cur, fr, h1, hg, hmc, hcm, hcs, htake, hfz⟩
    · simp only [Value.slice.injEq] at h1
      obtain ⟨rfl, rfl, rfl⟩ := h1
      subst h2
      cases hr
      have hrun := run_append_nil (P := P) w t ty e i z ht hinfo hz ⟨b2, off2, none⟩ l2.length cp2 xs2 (by rw [hl2, hsz]) hnews hl2pos (by omega) (by have := hgrow 0 (by simpa using hl2pos); simp at this; omega)
      have hN := hnew 0 (by simpa using hl2pos)
      simp only [List.length_nil, Nat.zero_add, List.nil_append] at hN ⊢
      simp only [Array.empty_append] at hN
      exact ⟨_, _, _, _, hrun, hC.renew hkl rfl (Keep.drewAlloc w _) (by simp) hN⟩
    · simp only [Value.slice.injEq] at h1
      obtain ⟨rfl, rfl, rfl⟩ := h1
      by_cases hroom : l.length + l2.length ≤ cp
      · -- there is room
        have hfit : l.length * r.sz + xs2.length ≤ cur.size := by rw [hl2, hcs, ← Nat.add_mul]; exact Nat.mul_le_mul_right _ hroom
        have hf := run_firstCells_some (P := P) w i.size l2.length ⟨b2, off2, none⟩ l2.length cp2 xs2 (by rw [hl2, hsz]) hnews
        rw [hsz] at hf
        obtain ⟨w', hr1, hb', hsz', ho, htp, hu, hk'⟩ := run_storeCells_row (P := P) g (l.length * r.sz) e fr xs2 0 cur.toList w (by simpa using hg) (by simpa using hfz) (by simpa using hfit) hone
        have hgO : ∀ b, b < w.heap.size → b ∉ O → w'.heap[b]? = w.heap[b]? := fun b hb hbO => hk' b (fun e' => by
          subst e'
          exact hbO (hC.own b (by rw [List.mem_flatMap]; exact ⟨_, List.mem_of_getElem? hk, by simp [Fact.own, Value.ownBlock]⟩)).1)
        have hC' := hC.turn (b := g) (g := .row r e (.slice (some ⟨g, 0, none⟩) (l ++ l2).length cp) (l ++ l2)) hk (by simp [Fact.own, Value.ownBlock]) (by simp [Fact.own, Value.ownBlock]) (Nat.le_of_eq hsz'.symm) ho htp hu (fun k _ => hk' k) (by
          refine ⟨xs ++ xs2, (hr.append hr2).mono (fun _ h _ => h) hgO (Nat.le_of_eq hsz'.symm), .inr ⟨g, cp, _, fr, rfl, hb', by simpa using hroom, hcm, ?_, ?_, ?_⟩⟩
          · simp only [Nat.add_zero, List.size_toArray, List.length_append, List.length_take, List.length_drop, Array.length_toList]; omega
          · have h3 : (l ++ l2).length * r.sz = (xs ++ xs2).length := (hr.append hr2).length.symm
            rw [h3, ← htake, Nat.add_zero]
            simp only [List.append_assoc]
            rw [← List.append_assoc, List.take_left]
          · intro j hj
            refine hfz j ?_
            simp only [Nat.add_zero, List.size_toArray, List.length_append, List.length_take, List.length_drop, Array.length_toList] at hj
            omega)
        refine ⟨O, w', some ⟨g, 0, none⟩, cp, ?_, hC'⟩
        simp [Builtin.append_, run_underlying ht, sizeOf, typeInfo, hinfo, Builtin.lenOf, hroom, hf, Addr.add_lit, hsz]
        rw [hr1]; rfl
      · have holds : ∀ j u, xs[j]? = some u → w.cell? ((⟨g, 0, none⟩ : Addr).add j) = some u := by
          intro j u hu
          rw [Addr.add_lit, Nat.zero_add, cell_of_row w g j cur e fr hg]
          rw [← htake, List.getElem?_take] at hu
          split at hu
          · simpa using hu
          · cases hu
        have hrun := run_append_grow (P := P) w t ty e i z ht hinfo hz ⟨g, 0, none⟩ l.length cp xs (by rw [hr.length, hsz]) holds ⟨b2, off2, none⟩ l2.length cp2 xs2 (by rw [hl2, hsz]) hnews (by omega) (by omega) (growslice_fits (by omega) (hgrow cp (by omega)))
        have hN := hnew cp (by omega)
        refine ⟨_, _, _, _, ?_, hC.renew hkl rfl (Keep.drewAlloc w _) (by simp) hN⟩
        rw [hrun, List.length_append]

theorem WL_append {e : TypeId} {i : TypeInfo} {z : Value} {k : Nat} {a a2 : Option Addr} {m cp m2 cp2 : Nat} {l l2 l3 : List τ} (happ : app l l2 = some l3) (hC : Ctx O0 K w0 O w L) (hk : L[k]? = some (.row r e (.slice a m cp) l)) (hsrc : r.sl.rel O w [.slice a2 m2 cp2] l2)
    (ht : P.underlying t = some (.slice e)) (hi : ∀ w, (typeInfo e).run P w = .ok i w) (hz : i.zero = some z) (hsz : i.size = r.sz) (hzs : z.cells.size = r.sz) (hby : i.bytes ≤ 256)
    (hd : d < n) (hx : ev ρ x = .slice a m cp) (hy : ev ρ y = .slice a2 m2 cp2)
    (h : ∀ O' w' a' cp', Ctx O0 K w0 O' w' (L.set k (.row r e (.slice a' l3.length cp') l3)) → WL P n ops rest Q (upd ρ d (.slice a' l3.length cp')) w') :
    WL P n ops (⟨some d, .call { callee := .builtin .append, args := #[x, y], argTypes := #[t, t] }, ty, pos, after, none⟩ :: rest) Q ρ w := by
  intro ac ha
  obtain ⟨O', w', a', cp', hr, hC'⟩ := append_row ht hi hz hsz hzs hby hC hk hsrc happ ty
  refine wpList_plain rfl fun Kk hKk => ?_
  have hrun : (execOp (ev ρ) ⟨some d, .call { callee := .builtin .append, args := #[x, y], argTypes := #[t, t] }, ty, pos, after, none⟩).run P w = .ok (.value (.slice a' l3.length cp')) w' := by
    simp only [execOp, resolve, invoke, builtin, Sem.run_bind, Sem.run_pure, Result.andThen_ok, List.map_toArray, List.map_cons, List.map_nil, hx, hy, hr]
  rw [← ha.env, ev_envOf] at hrun
  unfold Oper.wp
  rw [hrun]
  exact hKk _ _ (h O' w' a' cp' hC' _ (ha.put hd _))

/-- The nil slice is a row of the call's own. -/
theorem Ctx.nilRow (h : Ctx O0 K w0 O w L) (r : Rp τ) (T : TypeId) : Ctx O0 K w0 O w (.row r T (.slice none 0 0) [] :: L) :=
  h.cons ⟨[], .nil, .inl ⟨rfl, rfl⟩⟩ rfl

/-- A row of the call's own reads, for the caller, as a slice. -/
theorem Ctx.rowOut (h : Ctx O0 K w0 O w L) (hO : ∀ b, b ∈ O0 → b < w0.heap.size) (hK : ∀ b, b ∈ K → False) {i : Nat} {T : TypeId} {a : Option Addr} {m cp : Nat} {l : List τ} (hi : L[i]? = some (.row r T (.slice a m cp) l)) : r.sl.rel O0 w [.slice a m cp] l := by
  obtain ⟨xs, hr, hv⟩ : OwnRow r T O w (.slice a m cp) l := h.at hi
  have hr' := hr.mono (O' := O0) (fun b hb _ => h.sub b hb) (fun _ _ _ => rfl) (Nat.le_refl _)
  rcases hv with ⟨h1, rfl⟩ | ⟨g, cap, cur, fr, h1, hg, hmc, _, hcs, htake, _⟩
  · simp only [Value.slice.injEq] at h1
    obtain ⟨rfl, rfl, rfl⟩ := h1
    cases hr
    exact sl_nil r O0 w
  · simp only [Value.slice.injEq] at h1
    obtain ⟨rfl, rfl, rfl⟩ := h1
    have hgo := h.own g (by rw [List.mem_flatMap]; exact ⟨_, List.mem_of_getElem? hi, by simp [Fact.own, Value.ownBlock]⟩)
    have hg0 : w0.heap.size ≤ g := hgo.2.resolve_left (hK g)
    refine ⟨_, _, xs, rfl, hmc, hr', .inr ⟨g, 0, rfl, (Array.getElem?_eq_some_iff.1 hg).1, fun e => by have := hO g e; omega, fun j u hu => ?_⟩⟩
    rw [Nat.zero_add, cell_of_row w g j cur T fr hg]
    rw [← htake, List.getElem?_take] at hu
    split at hu
    · simpa using hu
    · cases hu
end
end Go.Gx
