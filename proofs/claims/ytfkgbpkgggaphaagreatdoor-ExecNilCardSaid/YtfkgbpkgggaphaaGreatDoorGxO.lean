/- Appending whatever: a string's bytes too. Pointers turned unsafe and back; entries of the model's own. -/
import Derived.Test.YtfkgbpkgggaphaaGreatDoorGxN
import Derived.Deep.AppendSrc
import Derived.Deep.Upon
import Derived.Lib.Builder
namespace Go.Gx
open Go
section
variable {P : Program} {n : Nat} {Q : Exit → Env → World → Prop} {ρ : Env} {w w' : World} {ops : Array Oper} {rest : List Oper} {d : Nat} {ty : TypeId} {pos : String} {after : Array Edge}
  {x y c : Operand} {t t' : TypeId} {O0 K O : List Nat} {w0 : World} {L : List Fact} {τ : Type} {r : Rp τ}
theorem append_src {e t2 : TypeId} {i : TypeInfo} {z : Value} (ht : P.underlying t = some (.slice e)) (hi : ∀ w, (typeInfo e).run P w = .ok i w) (hz : i.zero = some z) (hsz : i.size = r.sz) (hzs : z.cells.size = r.sz) (hby : i.bytes ≤ 256) 
    {k : Nat} {a : Option Addr} {m cp : Nat} {l l2 l3 : List τ} {v2 : Value} {xs2 : List Value} (hC : Ctx O0 K w0 O w L) (hk : L[k]? = some (.row r e (.slice a m cp) l)) (S : Src P r.sz t2 v2 l2.length xs2 w) (hr2 : RelList r O w xs2 l2) (happ : app l l2 = some l3) (ty : TypeId) :
    ∃ O' w' a' cp', (Builtin.append_ #[t, t2] ty #[.slice a m cp, v2]).run P w = .ok (.slice a' l3.length cp') w' ∧ Ctx O0 K w0 O' w' (L.set k (.row r e (.slice a' l3.length cp') l3)) := by
  obtain ⟨rfl, hlen⟩ := app_some happ
  have hinfo := info_of_run hi
  have hkl : k < L.length := (List.getElem?_eq_some_iff.1 hk).1
  rw [← hsz] at S
  obtain ⟨xs, hr, hv⟩ : OwnRow r e O w (.slice a m cp) l := hC.at hk
  have hl2 := hr2.length
  by_cases he : l2 = []
  · subst he
    cases hr2
    -- nothing is appended
    have hm : m = l.length := by
      rcases hv with ⟨h1, h2⟩ | ⟨g, cap, cur, fr, h1, _⟩
      · simp at h1; subst h2; simp [h1]
      · simp at h1; exact h1.2.1
    have hmc : m ≤ cp := by
      rcases hv with ⟨h1, h2⟩ | ⟨g, cap, cur, fr, h1, _, h3, _⟩
      · simp at h1; omega
      · simp at h1; obtain ⟨_, h5, h6⟩ := h1; omega
    subst hm
    refine ⟨O, w, a, cp, ?_, by
      rw [List.append_nil, show L.set k (.row r e (.slice a l.length cp) l) = L from by
        have := (List.getElem?_eq_some_iff.1 hk).2
        rw [← this]; exact List.set_getElem_self hkl]
      exact hC⟩
    rw [List.append_nil]
    exact run_append_nothing w t t2 ty e i ht hinfo a l.length cp hmc v2 S
  · have hl2pos : 0 < l2.length := List.length_pos_iff.2 he
    have hone := (hr2.one)
    have hgrow : ∀ (old : Nat), old < l.length + l2.length → (l.length + l2.length) * i.bytes ≤ 140737488355328 := by
      intro _ _
      have : (l.length + l2.length) * i.bytes ≤ 549755813888 * 256 := Nat.mul_le_mul (by omega) hby
      omega
    have hnew : ∀ (old : Nat), old < l.length + l2.length → (Fact.row r e (.slice (some ⟨w.heap.size, 0, none⟩) (l ++ l2).length (grownCap w (l.length + l2.length) old e)) (l ++ l2)).holds (w.heap.size :: O)
        (w.drew.alloc (.cells (xs.toArray ++ xs2.toArray ++ Builtin.zeroCells z.cells (grownCap w (l.length + l2.length) old e - (l.length + l2.length))) e)) := by
      intro old ho
      have hge := grownCap_ge w (l.length + l2.length) old e
      have hcm : grownCap w (l.length + l2.length) old e ≤ maxLen := grownCap_le_maxLen w _ old e (by simp only [maxLen]; omega)
      have hrl : RelList r (w.heap.size :: O) (w.drew.alloc (.cells (xs.toArray ++ xs2.toArray ++ Builtin.zeroCells z.cells (grownCap w (l.length + l2.length) old e - (l.length + l2.length))) e)) (xs ++ xs2) (l ++ l2) := by
        refine (hr.append hr2).mono (fun b hb hl => ?_) (fun b hb _ => (Keep.drewAlloc w _).block b hb (by simp)) (Keep.drewAlloc w _).size
        rcases List.mem_cons.1 hb with rfl | hb
        · omega
        · exact hb
      refine ⟨xs ++ xs2, hrl, .inr ⟨w.heap.size, _, _, (0, 0), rfl, heap_alloc_new w.drew _, by simpa using hge, hcm, ?_, ?_, by intro j _ h; omega⟩⟩
      · simp only [Array.size_append, List.size_toArray, size_zeroCells, hzs, hr.length, hr2.length, ← Nat.add_mul]
        congr 1; omega
      · have : (l ++ l2).length * r.sz = (xs ++ xs2).length := hrl.length.symm
        rw [this, Array.toList_append, Array.toList_append, List.take_append_of_le_length (by simp)]
        simp only [List.length_append]
        exact List.take_of_length_le (by simp)
    rcases hv with ⟨h1, h2⟩ | ⟨g, cap, cur, fr, h1, hg, hmc, hcm, hcs, htake, hfz⟩
    · simp only [Value.slice.injEq] at h1
      obtain ⟨rfl, rfl, rfl⟩ := h1
      subst h2
      cases hr
      have hrun := run_append_grow_src (P := P) w t t2 ty e i z ht hinfo hz none 0 0 [] (by simp [Builtin.firstCells]) v2 l2.length xs2 S (by omega) (by omega) (growslice_fits (by omega) (by have := hgrow 0 (by simpa using hl2pos); simpa using this))
      have hN := hnew 0 (by simpa using hl2pos)
      simp only [List.length_nil, Nat.zero_add, List.nil_append] at hN hrun ⊢
      simp only [Array.empty_append] at hN
      exact ⟨_, _, _, _, hrun, hC.renew hkl rfl (Keep.drewAlloc w _) (by simp) hN⟩
    · simp only [Value.slice.injEq] at h1
      obtain ⟨rfl, rfl, rfl⟩ := h1
      by_cases hroom : l.length + l2.length ≤ cp
      · -- there is room
        have hfit : l.length * r.sz + xs2.length ≤ cur.size := by rw [hl2, hcs, ← Nat.add_mul]; exact Nat.mul_le_mul_right _ hroom
        have hf := S.cells
        have hln := S.len
        obtain ⟨w', hr1, hb', hsz', ho, htp, hu, hk'⟩ := run_storeCells_row (P := P) g (l.length * r.sz) e fr xs2 0 cur.toList w (by simpa using hg) (by simpa using hfz) (by simpa using hfit) hone
        have hgO : ∀ b, b < w.heap.size → b ∉ O → w'.heap[b]? = w.heap[b]? := fun b hb hbO => hk' b (fun e' => by
          subst e'
          exact hbO (hC.own b (by rw [List.mem_flatMap]; exact ⟨_, List.mem_of_getElem? hk, by simp [Fact.own, Value.ownBlock]⟩)).1)
        have hC' := hC.turn (b := g) (g := .row r e (.slice (some ⟨g, 0, none⟩) (l ++ l2).length cp) (l ++ l2)) hk (by simp [Fact.own, Value.ownBlock]) (by simp [Fact.own, Value.ownBlock]) (Nat.le_of_eq hsz'.symm) ho htp hu (fun k _ => hk' k) (by
          refine ⟨xs ++ xs2, (hr.append hr2).mono (fun _ h _ => h) hgO (Nat.le_of_eq hsz'.symm), .inr ⟨g, cp, _, fr, rfl, hb', by simpa using hroom, hcm, ?_, ?_, ?_⟩⟩
          · simp only [Nat.add_zero, List.size_toArray, List.length_append, List.length_take, List.length_drop, Array.length_toList]; omega
          · have h3 : (l ++ l2).length * r.sz = (xs ++ xs2).length := (hr.append hr2).length.symm
            rw [h3, ← htake, Nat.add_zero]
            simp only [List.append_assoc]
            rw [← List.append_assoc, List.take_left]
          · intro j hj
            refine hfz j ?_
            simp only [Nat.add_zero, List.size_toArray, List.length_append, List.length_take, List.length_drop, Array.length_toList] at hj
            omega)
        refine ⟨O, w', some ⟨g, 0, none⟩, cp, ?_, hC'⟩
        rcases S.kind with ⟨e', hk2⟩ | hk2 <;>
        (simp [Builtin.append_, run_underlying ht, run_underlying hk2, sizeOf, typeInfo, hinfo, hln, hroom, hf, Addr.add_lit]
         rw [hsz, hr1]; rfl)
      · have holds : ∀ j u, xs[j]? = some u → w.cell? ((⟨g, 0, none⟩ : Addr).add j) = some u := by
          intro j u hu
          rw [Addr.add_lit, Nat.zero_add, cell_of_row w g j cur e fr hg]
          rw [← htake, List.getElem?_take] at hu
          split at hu
          · simpa using hu
          · cases hu
        have hrun := run_append_grow_src (P := P) w t t2 ty e i z ht hinfo hz (some ⟨g, 0, none⟩) l.length cp xs (run_firstCells_some (P := P) w.drew i.size l.length ⟨g, 0, none⟩ l.length cp xs (by rw [hr.length, hsz]) (by simpa using holds)) v2 l2.length xs2 S (by omega) (by omega) (growslice_fits (by omega) (hgrow cp (by omega)))
        have hE : (xs ++ xs2).toArray = xs.toArray ++ xs2.toArray := by simp
        rw [hE] at hrun
        have hN := hnew cp (by omega)
        refine ⟨_, _, _, _, ?_, hC.renew hkl rfl (Keep.drewAlloc w _) (by simp) hN⟩
        rw [hrun, List.length_append]


theorem relBytesG (O : List Nat) (w : World) (l : List UInt8) : RelList rU8 O w (Go.byteCells ⟨l.toArray⟩) l := by
  unfold Go.byteCells
  induction l with
  | nil => exact .nil
  | cons b l ih => exact RelList.cons (r := rU8) (c := [Value.int .u8 (b.toNat : Int)]) rfl ih
theorem WL_appendStr {e u : TypeId} {i : TypeInfo} {k : Nat} {a : Option Addr} {m cp : Nat} {l l2 l3 : List UInt8} (happ : app l l2 = some l3) (hC : Ctx O0 K w0 O w L) (hk : L[k]? = some (.row rU8 e (.slice a m cp) l))
    (ht : P.underlying t = some (.slice e)) (hu : P.underlying u = some .string) (hi : ∀ w, (typeInfo e).run P w = .ok i w) (hz : i.zero = some (.int .u8 0)) (hsz : i.size = 1) (hby : i.bytes ≤ 256)
    (hd : d < n) (hx : ev ρ x = .slice a m cp) (hy : ev ρ y = vstr l2)
    (h : ∀ O' w' a' cp', Ctx O0 K w0 O' w' (L.set k (.row rU8 e (.slice a' l3.length cp') l3)) → WL P n ops rest Q (upd ρ d (.slice a' l3.length cp')) w') :
    WL P n ops (⟨some d, .call { callee := .builtin .append, args := #[x, y], argTypes := #[t, u] }, ty, pos, after, none⟩ :: rest) Q ρ w := by
  intro ac ha
  have S : Src P rU8.sz u (vstr l2) l2.length (Go.byteCells ⟨l2.toArray⟩) w := by
    have := Src.ofString (P := P) w hu ⟨l2.toArray⟩
    rw [show (⟨l2.toArray⟩ : ByteArray).size = l2.length from by show l2.toArray.size = _; simp] at this
    exact this
  obtain ⟨O', w', a', cp', hr, hC'⟩ := append_src (t2 := u) ht hi hz (r := rU8) hsz rfl hby hC hk S (relBytesG _ _ _) happ ty
  refine wpList_plain rfl fun Kk hKk => ?_
  have hrun : (execOp (ev ρ) ⟨some d, .call { callee := .builtin .append, args := #[x, y], argTypes := #[t, u] }, ty, pos, after, none⟩).run P w = .ok (.value (.slice a' l3.length cp')) w' := by
    simp only [execOp, resolve, invoke, builtin, Sem.run_bind, Sem.run_pure, Result.andThen_ok, List.map_toArray, List.map_cons, List.map_nil, hx, hy, hr]
  rw [← ha.env, ev_envOf] at hrun
  unfold Oper.wp
  rw [hrun]
  exact hKk _ _ (h O' w' a' cp' hC' _ (ha.put hd _))

theorem shape_of_box {i b : Nat} {cells : List Value} {T : TypeId} (hC : Ctx O0 K w0 O w L) (hi : L[i]? = some (.box b cells T)) : w.shape? b = some (T, cells.length) := by
  have h : w.heap[b]? = some (.cells cells.toArray T (0, 0)) := hC.at hi
  simp [World.shape?, h]
theorem WL_toUnsafe {i b off : Nat} {cells : List Value} {T te : TypeId} {j : TypeInfo} (hC : Ctx O0 K w0 O w L) (hi : L[i]? = some (.box b cells T)) (hs : P.underlying t = some (.pointer te)) (hd' : P.underlying t' = some .unsafePointer)
    (hj : ∀ w, (typeInfo te).run P w = .ok j w) (hz : j.size ≠ 0) (ho : off < cells.length) (hd : d < n) (hx : ev ρ x = .pointer (some ⟨b, off, none⟩)) (h : WL P n ops rest Q (upd ρ d (.pointer (some ⟨b, off, none⟩))) w) :
    WL P n ops (⟨some d, .convert t t' x, ty, pos, after, none⟩ :: rest) Q ρ w :=
  WL_value hd (by intros; simp only [execOp, hx, Sem.run_bind, Lib.run_to_unsafe w ⟨b, off, none⟩ hs hd' (info_of_run hj) hz (shape_of_box hC hi) ho, Result.andThen_ok, Sem.run_pure]) h
theorem WL_fromUnsafe {i b off : Nat} {cells : List Value} {T te : TypeId} {j : TypeInfo} (hC : Ctx O0 K w0 O w L) (hi : L[i]? = some (.box b cells T)) (hs : P.underlying t = some .unsafePointer) (hd' : P.underlying t' = some (.pointer te))
    (hj : ∀ w, (typeInfo te).run P w = .ok j w) (ho : liesAt P P.depth T (cells.length / P.cellsOf T) off te 1 = true) (hd : d < n) (hx : ev ρ x = .pointer (some ⟨b, off, none⟩)) (h : WL P n ops rest Q (upd ρ d (.pointer (some ⟨b, off, none⟩))) w) :
    WL P n ops (⟨some d, .convert t t' x, ty, pos, after, none⟩ :: rest) Q ρ w :=
  WL_value hd (by intros; simp only [execOp, hx, Sem.run_bind, Lib.run_from_unsafe w ⟨b, off, none⟩ hs hd' (info_of_run hj) (shape_of_box hC hi) ho, Result.andThen_ok, Sem.run_pure]) h

/-- An entry of the model's own that hands back a value and leaves the world. -/
theorem WL_extern {f : FuncId} {fn : Func} {en : Array Value → Sem Value} {fo : Operand} {al : List Operand} {ats : Array TypeId} {vl : List Value} {v : Value} (hf : P.funcs[f]? = some fn) (hname : (fn.name == "runtime.NumGoroutine") = false)
    (hb : fn.body.isNone = true) (hn : Extern.findNext fn = none) (he : Extern.find fn = some en) (hv : (en vl.toArray).run P w = .ok v w) (hd : d < n)
    (hfo : ev ρ fo = .func (.func f) #[] #[]) (hargs : al.map (ev ρ) = vl) (h : WL P n ops rest Q (upd ρ d v) w) :
    WL P n ops (⟨some d, .call { callee := .value fo, args := al.toArray, argTypes := ats }, ty, pos, after, none⟩ :: rest) Q ρ w := by
  subst hargs
  refine WL_value hd (w' := w) (fun dst ty pos after g => ?_) h
  simp only [execOp, resolve, hfo, Deferred.ofValue, invoke, Sem.run_bind, Sem.run_pure, Result.andThen_ok, Array.append_empty, Array.empty_append, List.map_toArray, run_callFunc_extern hf hname hb hn he, hv]
end
end Go.Gx
