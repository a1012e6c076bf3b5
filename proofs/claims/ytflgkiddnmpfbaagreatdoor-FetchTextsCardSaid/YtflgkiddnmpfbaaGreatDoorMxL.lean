/- M's operations, sound: maps. -/
import Derived.Test.YtflgkiddnmpfbaaGreatDoorMxK
set_option linter.unusedVariables false
set_option linter.unusedSimpArgs false
namespace Go.Mx
open Go Go.Gx
section
variable {P : Program} {G : Gh} {B : Nat} {h h' : Heap} {w : World} {op : Op} {ρ : Operand → Value} {e : Operand → Option AV} {r : Rs}

theorem key_sound {d : TypeDesc} {k : AV} {u : Value} (hk : keyOk d k = true) (hV : V G k u) : MapKept.IsKey d u := by
  cases d <;> cases hV <;> simp_all [keyOk, MapKept.IsKey, vstr]
theorem same_sound {d : TypeDesc} {a b : AV} {u v : Value} {t : Bool} (hs : msame d a b = some t) (ha : V G a u) (hb : V G b v) : Instr.sameNow d u v = some t := by
  unfold msame at hs
  split at hs
  · split at hs
    · rename_i hk
      subst hk
      cases hs; rw [V_int ha, V_int hb]; simp [Instr.sameNow]
    · cases hs
  · rename_i a b
    cases hs; rw [V_str ha, V_str hb]
    show some (a.toArray == b.toArray) = _
    simp
  · cases hs; rw [V_bool ha, V_bool hb]; simp [Instr.sameNow]
  · cases hs

theorem isKey_same {d : TypeDesc} {u v : Value} {t : Bool} (hu : MapKept.IsKey d u) (h : Instr.sameNow d u v = some t) : MapKept.IsKey d v := by
  unfold Instr.sameNow at h
  split at h
  · split at h
    · rename_i hk; subst hk; exact hu
    · cases h
  · trivial
  · trivial
  · cases h
theorem find_none {d : TypeDesc} {k : AV} {u : Value} : ∀ {es : List (AV × AV)} {es' : List MapEntry} {i j : Nat}, mfind d k es i = some none → V G k u → VL G (es.map (·.1)) (es'.map (·.key)) → Instr.findNow d u es' j = some none
  | [], es', i, j, _, _, hx => by
    cases es' with
    | nil => rfl
    | cons => cases hx
  | p :: es, [], _, _, _, _, hx => by cases hx
  | p :: es, e' :: es', i, j, h, hk, hx => by
    unfold mfind at h
    cases hx with
    | cons h1 h2 =>
      split at h
      · cases h
      · rename_i hs
        unfold Instr.findNow
        rw [same_sound hs hk h1]
        exact find_none h hk h2
      · cases h
theorem find_some {d : TypeDesc} {k : AV} {u : Value} : ∀ {es : List (AV × AV)} {es' : List MapEntry} {i j : Nat} {v : AV}, mfind d k es i = some (some (j, v)) → V G k u → keyOk d k = true → VL G (es.map (·.1)) (es'.map (·.key)) → VL G (es.map (·.2)) (es'.map (·.val)) →
    ∃ e', Instr.findNow d u es' i = some (some (j, e'.val)) ∧ i ≤ j ∧ es'[j - i]? = some e' ∧ e'.key = u ∧ V G v e'.val
  | [], es', i, j, v, h, _, _, _, _ => by cases h
  | p :: es, [], _, _, _, _, _, _, hx, _ => by cases hx
  | p :: es, e' :: es', i, j, v, h, hk, hok, hx, hy => by
    unfold mfind at h
    cases hx with
    | cons h1 h2 =>
      cases hy with
      | cons h3 h4 =>
        split at h
        · rename_i hs
          cases h
          have hs' := same_sound hs hk h1
          refine ⟨e', by unfold Instr.findNow; rw [hs'], Nat.le_refl _, by simp, ?_, h3⟩
          have hik := key_sound hok hk
          have hik2 := isKey_same hik hs'
          obtain ⟨q, hq, hiff⟩ := MapKept.sameNow_of_keys hik hik2
          rw [hs'] at hq; cases hq
          exact (hiff.1 rfl).symm
        · rename_i hs
          obtain ⟨e2, g1, g2, g3, g4, g5⟩ := find_some h hk hok h2 h4
          refine ⟨e2, by unfold Instr.findNow; rw [same_sound hs hk h1]; exact g1, by omega, ?_, g4, g5⟩
          rw [show j - i = (j - (i + 1)) + 1 from by omega]; simpa using g3
        · cases h

theorem s_makeMap {t : TypeId} (hr : HR G B h w) (hm : mop P e h (.makeMap t none) = some r) : ROk P G B w (.makeMap t none) ρ r := by
  simp only [mop] at hm
  cases hm
  have hS := Step.push (blk := .map []) (vs := [⟨w.heap.size, 0, 0, 0, 0⟩]) (w' := w.alloc (.map #[] 0)) hr rfl (by simp) (fun b hb => (Keep.alloc [] w _).block b hb (by simp)) rfl rfl rfl
    (fun v r hv => by cases v <;> simp at hv; subst hv; exact ⟨Nat.le_refl _, by simp⟩) (Or.inr ⟨_, rfl, #[], 0, heap_alloc_new w _, .nil, .nil⟩)
  refine ⟨_, .map (some w.heap.size), _, ?_, hS, ?_⟩
  · intros; simp [execOp, Instr.makeMap]
  · rw [← hr.len]
    exact .map (r := ⟨w.heap.size, 0, 0, 0, 0⟩) (by rw [at_new]; rfl)

theorem s_range {t : TypeId} {x : Operand} (hr : HR G B h w) (he : ∀ x v, e x = some v → V G v (ρ x)) (hm : mop P e h (.range t x) = some r) : ROk P G B w (.range t x) ρ r := by
  have key : ∀ {m : Option Nat} {o : Option Nat} {b c : Nat}, (match m with | none => o = none | some l => ∃ rm, G.at l 0 = some rm ∧ o = some rm.b) → r = .val (.ptr h.length 0 0 0) (h ++ [Blk.miter m]) →
      (Instr.range t (ρ x)).run P w = .ok (.pointer (some ⟨w.heap.size, 0, none⟩)) (w.alloc (.mapIter o b #[] c)) → ROk P G B w (.range t x) ρ r := by
    intro m o b c hmo hr' hrun
    subst hr'
    have hS := Step.push (blk := .miter m) (vs := [⟨w.heap.size, 0, 0, 0, 0⟩]) (w' := w.alloc (.mapIter o b #[] c)) hr rfl (by simp) (fun b hb => (Keep.alloc [] w _).block b hb (by simp)) rfl rfl rfl
      (fun v r hv => by cases v <;> simp at hv; subst hv; exact ⟨Nat.le_refl _, by simp⟩) (Or.inr ⟨_, rfl, rfl, o, b, #[], c, heap_alloc_new w _, by
        cases m with
        | none => exact hmo
        | some l => obtain ⟨rm, h1, h2⟩ := hmo; exact ⟨rm, Gh.le_push G _ _ _ _ h1, h2⟩⟩)
    refine ⟨_, .pointer (some ⟨w.heap.size, 0, none⟩), _, ?_, hS, ?_⟩
    · intros; simp [execOp, hrun]
    · rw [← hr.len]
      exact .ptr (r := ⟨w.heap.size, 0, 0, 0, 0⟩) (by rw [at_new]; rfl) (Nat.le_refl _) (Nat.le_refl _)
  simp only [mop] at hm
  split at hm
  · rename_i ht hx
    cases hm
    have hV := he _ _ hx
    generalize hu : ρ x = u at hV key
    cases hV
    exact key (m := none) (o := none) (b := 0) (c := 0) rfl rfl (by simp [Instr.range, run_underlying ht])
  · rename_i loc ht hx
    split at hm
    · rename_i es hb
      cases hm
      have hV := he _ _ hx
      generalize hu : ρ x = u at hV key
      cases hV with
      | @map _ rm ha =>
        obtain ⟨b, vs, hb', hg, hv, hR⟩ := hr.get ha
        rw [hb] at hb'; cases hb'
        rcases hR with rfl | ⟨r', rfl, es', clock, h1, _⟩
        · simp at hv
        · simp at hv; subst hv
          exact key (m := some loc) (o := some r'.b) (b := clock) (c := clock) ⟨_, ha, rfl⟩ rfl (by simp [Instr.range, run_underlying ht, MapKept.run_getObj_map h1])
    · cases hm
  · cases hm
theorem run_next_none {b a c : Nat} {s : Array Nat} {ty : TypeId} (h1 : w.heap[b]? = some (.mapIter none a s c)) : (Instr.next (.pointer (some ⟨b, 0, none⟩)) false ty).run P w = .ok (.tuple #[.bool false]) w := by
  simp only [Instr.next, getObj, Sem.run_bind, Sem.run, h1, Result.andThen]
  rfl
theorem run_next_empty {b a c m cl : Nat} {s : Array Nat} {ty : TypeId} (h1 : w.heap[b]? = some (.mapIter (some m) a s c)) (h2 : w.heap[m]? = some (.map #[] cl)) : (Instr.next (.pointer (some ⟨b, 0, none⟩)) false ty).run P w = .ok (.tuple #[.bool false]) w := by
  simp only [Instr.next, getObj, Sem.run_bind, Sem.run, h1, h2, Result.andThen]
  have hf : ∀ p : MapEntry → Bool, Array.filter p #[] = #[] := fun _ => rfl
  simp only [hf]
  simp [run_choose_drew, Question.forced, Question.cut, Result.andThen]
theorem s_next {x : Operand} {isStr : Bool} (hr : HR G B h w) (he : ∀ x v, e x = some v → V G v (ρ x)) (hm : mop P e h (.next x isStr) = some r) : ROk P G B w (.next x isStr) ρ r := by
  cases isStr with
  | true => simp [mop] at hm
  | false =>
    simp only [mop] at hm
    split at hm
    · rename_i loc hx
      have hV := he _ _ hx
      generalize hu : ρ x = u at hV
      cases hV with
      | @ptr _ _ _ _ rp ha q1 q2 =>
        have key : ∀ {m : Option Nat}, h[loc]? = some (.miter m) → ∃ a s c b, w.heap[rp.b]? = some (.mapIter a s c b) ∧ rp.sh = 0 ∧ match m with | none => a = none | some l => ∃ rm, G.at l 0 = some rm ∧ a = some rm.b := by
          intro m hb
          obtain ⟨b, vs, hb', hg, hv, hR⟩ := hr.get ha
          rw [hb] at hb'; cases hb'
          rcases hR with rfl | ⟨r', rfl, h0, a, s, c, b, h1, h2⟩
          · simp at hv
          · simp at hv; subst hv
            exact ⟨a, s, c, b, h1, h0, h2⟩
        have fin : r = .val (.tup [.bool false]) h → (∀ ty, (Instr.next (.pointer (some ⟨rp.b, 0, none⟩)) false ty).run P w = .ok (.tuple #[.bool false]) w) → rp.sh = 0 → ROk P G B w (.next x false) ρ r := by
          intro h1 h2 h3
          subst h1
          refine ROk.quiet hr (.tup (.cons (.bool false) .nil)) ?_
          intros
          simp [execOp, hu, h3, h2]
        split at hm
        · rename_i hb
          cases hm
          obtain ⟨a, s, c, b, h1, h0, h2⟩ := key hb
          obtain rfl : a = none := h2
          exact fin rfl (fun ty => run_next_none h1) h0
        · rename_i l hb
          split at hm
          · rename_i hb2
            cases hm
            obtain ⟨a, s, c, b, h1, h0, rm, h2, rfl⟩ := key hb
            obtain ⟨bk, vs, hb', hg, hv, hR⟩ := hr.get h2
            rw [hb2] at hb'; cases hb'
            rcases hR with rfl | ⟨r', rfl, es', clock, k1, k2, _⟩
            · simp at hv
            · simp at hv; subst hv
              have : es' = #[] := by
                have := k2.length
                simpa using this
              subst this
              exact fin rfl (fun ty => run_next_empty h1 k1) h0
          · cases hm
        · cases hm
    · cases hm

/-- What a map holds. -/
theorem map_at {m : AV} {u : Value} {es : List (AV × AV)} (hr : HR G B h w) (hm : mentries m h = some es) (hV : V G m u) :
    (m = .nilm ∧ es = [] ∧ u = .map none) ∨ ∃ loc r es' clock, m = .map loc ∧ h[loc]? = some (.map es) ∧ G.at loc 0 = some r ∧ u = .map (some r.b) ∧ w.heap[r.b]? = some (.map es' clock) ∧
      VL G (es.map (·.1)) (es'.toList.map (·.key)) ∧ VL G (es.map (·.2)) (es'.toList.map (·.val)) := by
  unfold mentries at hm
  split at hm
  · cases hm; cases hV; exact .inl ⟨rfl, rfl, rfl⟩
  · rename_i loc
    split at hm
    · rename_i es0 hb
      cases hm
      cases hV with
      | @map _ r ha =>
        obtain ⟨b, vs, hb', hg, hv, hR⟩ := hr.get ha
        rw [hb] at hb'; cases hb'
        rcases hR with rfl | ⟨r', rfl, es', clock, h1, h2, h3⟩
        · simp at hv
        · simp at hv; subst hv
          exact .inr ⟨loc, _, es', clock, rfl, hb, ha, rfl, h1, h2, h3⟩
    · cases hm
  · cases hm

theorem s_lookup {t : TypeId} {m k : Operand} {ok : Bool} (hr : HR G B h w) (he : ∀ x v, e x = some v → V G v (ρ x)) (hm : mop P e h (.lookup t m k ok) = some r) : ROk P G B w (.lookup t m k ok) ρ r := by
  simp only [mop] at hm
  split at hm
  · rename_i a b ha hb
    obtain ⟨v, h1, rfl⟩ := rv_some hm
    have hA := he _ _ ha
    have hB := he _ _ hb
    unfold mlookup at h1
    split at h1
    · rename_i kt et ht
      split at h1
      · rename_i d z hd hz
        split at h1
        · rename_i es hes
          split at h1
          · rename_i hok
            obtain ⟨zu, hzr, hzv, _⟩ := run_zero G hz
            have hik := key_sound hok hB
            have fin : ∀ {x : AV} {ux : Value} {q : Bool}, V G x ux → v = (if ok = true then .tup [x, .bool q] else x) → (Instr.lookup t (ρ m) (ρ k) ok).run P w = .ok (if ok = true then .tuple #[ux, .bool q] else ux) w → ROk P G B w (.lookup t m k ok) ρ (.val v h) := by
              intro x ux q hx hv hrun
              refine ROk.quiet hr (u := if ok = true then .tuple #[ux, .bool q] else ux) ?_ ?_
              · rw [hv]
                cases ok
                · simpa using hx
                · simp; exact V.tup (us := [ux, .bool q]) (.cons hx (.cons (.bool q) .nil))
              · intros
                simp only [execOp, Sem.run_bind, hrun, Result.andThen_ok, Sem.run_pure]
            rcases map_at hr hes hA with ⟨rfl, rfl, hu⟩ | ⟨loc, r, es', clock, rfl, hl, hg, hu, hw, hk1, hk2⟩
            · simp only [mfind] at h1
              cases h1
              refine fin hzv rfl ?_
              rw [hu]
              cases ok <;> simp [Instr.lookup, run_underlying ht, MapKept.run_checkKey hd hik, MapKept.run_findKey hd (show Instr.findNow d (ρ k) [] 0 = some none from rfl), hzr]
            · split at h1
              · rename_i i x hf
                cases h1
                obtain ⟨e', g1, g2, g3, g4, g5⟩ := find_some hf hB hok hk1 hk2
                refine fin g5 rfl ?_
                rw [hu]
                cases ok <;> simp [Instr.lookup, run_underlying ht, MapKept.run_getObj_map hw, MapKept.run_checkKey hd hik, MapKept.run_findKey hd g1]
              · rename_i hf
                cases h1
                have g1 := find_none (j := 0) hf hB hk1
                refine fin hzv rfl ?_
                rw [hu]
                cases ok <;> simp [Instr.lookup, run_underlying ht, MapKept.run_getObj_map hw, MapKept.run_checkKey hd hik, MapKept.run_findKey hd g1, hzr]
              · cases h1
          · cases h1
        · cases h1
      · cases h1
    · cases h1
  · cases hm

/-- A map is turned. -/
theorem map_turn {loc clock' : Nat} {r : Ver} {es es2 : List (AV × AV)} {es' es2' : Array MapEntry} {clock : Nat} (hr : HR G B h w) (hl : h[loc]? = some (.map es)) (hg : G.at loc 0 = some r) (hw : w.heap[r.b]? = some (.map es' clock))
    (h1 : VL G (es2.map (·.1)) (es2'.toList.map (·.key))) (h2 : VL G (es2.map (·.2)) (es2'.toList.map (·.val))) :
    Step G G B (h.set loc (.map es2)) w { w with heap := w.heap.setIfInBounds r.b (.map es2' clock') } := by
  obtain ⟨b, vs, hb', hg', hv, hR⟩ := hr.get hg
  rw [hl] at hb'; cases hb'
  rcases hR with rfl | ⟨r', rfl, _⟩
  · simp at hv
  simp at hv; subst hv
  obtain ⟨q1, q2⟩ := MapKept.heap_set (o' := .map es2' clock') hw
  have hS := Step.upd (vs' := [r']) (blk' := .map es2) (w' := { w with heap := w.heap.setIfInBounds r'.b (.map es2' clock') }) hr hl hg' rfl rfl ⟨0, r', rfl, rfl⟩ (by simp) (fun k _ hk => q2 k hk) rfl rfl rfl (fun _ _ h => h)
    (fun v r h => .inr ⟨v, r, h, rfl⟩) (fun hle => Or.inr ⟨r', rfl, es2', clock', q1, h1.le hle, h2.le hle⟩)
  rw [set_same hg'] at hS
  exact hS

theorem run_put {t : TypeId} {m k v : AV} {um uk uv : Value} (hr : HR G B h w) (hm : mput P t m k v h = some h') (hM : V G m um) (hK : V G k uk) (hV : V G v uv) : ∃ w', (Instr.mapUpdate t um uk uv).run P w = .ok () w' ∧ Step G G B h' w w' := by
  unfold mput at hm
  split at hm
  · rename_i kt et loc ht
    split at hm
    · rename_i d es hd hl
      split at hm
      · rename_i hok
        have hik := key_sound hok hK
        rcases map_at hr (show mentries (.map loc) h = some es by simp [mentries, hl]) hM with ⟨h0, _⟩ | ⟨loc', r, es', clock, h0, _, hg, hu, hw, hk1, hk2⟩
        · cases h0
        cases h0
        subst hu
        split at hm
        · rename_i i x hf
          cases hm
          obtain ⟨e', g1, g2, g3, g4, g5⟩ := find_some hf hK hok hk1 hk2
          rw [Nat.sub_zero] at g3
          have g3' : es'[i]? = some e' := by rw [← Array.getElem?_toList]; exact g3
          have hS := map_turn (clock' := clock) (es2 := es.set i (k, v)) (es2' := es'.modify i fun e => { e with key := uk, val := uv }) hr hl hg hw ?_ ?_
          · refine ⟨_, ?_, hS⟩
            simp [Instr.mapUpdate, run_underlying ht, MapKept.run_getObj_map hw, MapKept.run_checkKey hd hik, MapKept.run_findKey hd g1, g3', g4, MapKept.run_keyThatStays hik, MapKept.run_setObj_map _ hw]
          · rw [List.map_set]
            refine VL.of_get (by have := hk1.length; simp at this ⊢; exact this) fun j x u hx hu => ?_
            rw [List.getElem?_set] at hx
            rw [List.getElem?_map, Array.getElem?_toList, Array.getElem?_modify] at hu
            split at hx
            · rename_i hij
              subst hij
              split at hx
              · cases hx
                simp [g3'] at hu; subst hu; exact hK
              · cases hx
            · rename_i hij
              rw [if_neg hij] at hu
              obtain ⟨u', q1, q2⟩ := hk1.get hx
              rw [List.getElem?_map, Array.getElem?_toList, hu] at q1
              cases q1; exact q2
          · rw [List.map_set]
            refine VL.of_get (by have := hk2.length; simp at this ⊢; exact this) fun j x u hx hu => ?_
            rw [List.getElem?_set] at hx
            rw [List.getElem?_map, Array.getElem?_toList, Array.getElem?_modify] at hu
            split at hx
            · rename_i hij
              subst hij
              split at hx
              · cases hx
                simp [g3'] at hu; subst hu; exact hV
              · cases hx
            · rename_i hij
              rw [if_neg hij] at hu
              obtain ⟨u', q1, q2⟩ := hk2.get hx
              rw [List.getElem?_map, Array.getElem?_toList, hu] at q1
              cases q1; exact q2
        · rename_i hf
          cases hm
          have g1 := find_none (j := 0) hf hK hk1
          have hS := map_turn (clock' := clock + 1) (es2 := es ++ [(k, v)]) (es2' := es'.push { key := uk, val := uv, born := clock }) hr hl hg hw (by simpa using hk1.append (.cons hK .nil)) (by simpa using hk2.append (.cons hV .nil))
          refine ⟨_, ?_, hS⟩
          simp [Instr.mapUpdate, run_underlying ht, MapKept.run_getObj_map hw, MapKept.run_checkKey hd hik, MapKept.run_findKey hd g1, MapKept.run_setObj_map _ hw]
        · cases hm
      · cases hm
    · cases hm
  · cases hm
theorem s_mapUpdate {t : TypeId} {m k v : Operand} (hr : HR G B h w) (he : ∀ x v, e x = some v → V G v (ρ x)) (hm : mop P e h (.mapUpdate t m k v) = some r) : ROk P G B w (.mapUpdate t m k v) ρ r := by
  simp only [mop] at hm
  split at hm
  · rename_i a b c ha hb hc
    obtain ⟨h', h1, rfl⟩ := ru_some hm
    obtain ⟨w', hrun, hS⟩ := run_put hr h1 (he _ _ ha) (he _ _ hb) (he _ _ hc)
    exact ⟨w', G, by intros; simp only [execOp, Sem.run_bind, hrun, Result.andThen_ok, Sem.run_pure], hS⟩
  · cases hm
theorem s_insert {t : TypeId} {m k v : Operand} (hr : HR G B h w) (he : ∀ x v, e x = some v → V G v (ρ x)) (hm : mop P e h (.insert t m k v) = some r) : ROk P G B w (.insert t m k v) ρ r := by
  simp only [mop] at hm
  split at hm
  · rename_i a b c ha hb hc
    obtain ⟨h', h1, rfl⟩ := ru_some hm
    obtain ⟨w', hrun, hS⟩ := run_put hr h1 (he _ _ ha) (he _ _ hb) (he _ _ hc)
    exact ⟨w', G, by intros; simp only [execOp, Sem.run_bind, hrun, Result.andThen_ok, Sem.run_pure], hS⟩
  · cases hm
theorem run_delete {t ty t2 : TypeId} {m k : AV} {um uk : Value} (hr : HR G B h w) (hm : mdelete P t m k h = some h') (hM : V G m um) (hK : V G k uk) : ∃ w', (Builtin.delete_ #[t, t2] ty #[um, uk]).run P w = .ok (.tuple #[]) w' ∧ Step G G B h' w w' := by
  unfold mdelete at hm
  split at hm
  · rename_i kt et loc ht
    split at hm
    · rename_i d es hd hl
      split at hm
      · rename_i hok
        have hik := key_sound hok hK
        rcases map_at hr (show mentries (.map loc) h = some es by simp [mentries, hl]) hM with ⟨h0, _⟩ | ⟨loc', r, es', clock, h0, _, hg, hu, hw, hk1, hk2⟩
        · cases h0
        cases h0
        subst hu
        split at hm
        · rename_i i x hf
          cases hm
          obtain ⟨e', g1, g2, g3, g4, g5⟩ := find_some hf hK hok hk1 hk2
          rw [Nat.sub_zero] at g3
          have hi : i < es'.size := by simpa using (List.getElem?_eq_some_iff.1 g3).1
          have her : ∀ {α : Type} (f : AV × AV → AV) (g : MapEntry → Value), VL G (es.map f) (es'.toList.map g) → VL G ((es.eraseIdx i).map f) ((es'.eraseIdxIfInBounds i).toList.map g) := by
            intro _ f g hx
            have e1 : (es'.eraseIdxIfInBounds i).toList = es'.toList.eraseIdx i := by simp
            rw [e1, List.eraseIdx_eq_take_drop_succ, List.eraseIdx_eq_take_drop_succ, List.map_append, List.map_append, List.map_take, List.map_take, List.map_drop, List.map_drop]
            exact (hx.take i).append (hx.drop (i + 1))
          have hS := map_turn (clock' := clock) (es2 := es.eraseIdx i) (es2' := es'.eraseIdxIfInBounds i) hr hl hg hw (her (α := Unit) _ _ hk1) (her (α := Unit) _ _ hk2)
          refine ⟨_, ?_, hS⟩
          simp [Builtin.delete_, run_underlying ht, MapKept.run_getObj_map hw, MapKept.run_checkKey hd hik, MapKept.run_findKey hd g1, MapKept.run_setObj_map _ hw]
        · rename_i hf
          cases hm
          have g1 := find_none (j := 0) hf hK hk1
          have hS := map_turn (clock' := clock) (es2 := es) (es2' := es') hr hl hg hw hk1 hk2
          refine ⟨_, ?_, hS⟩
          simp [Builtin.delete_, run_underlying ht, MapKept.run_getObj_map hw, MapKept.run_checkKey hd hik, MapKept.run_findKey hd g1, MapKept.run_setObj_map _ hw]
        · cases hm
      · cases hm
    · cases hm
  · cases hm
end
end Go.Mx
