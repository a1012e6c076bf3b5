/- Maps of the call's own. -/
import Derived.Test.YtfkgbpkgggaphaaGreatDoorGxP
import Derived.MapKept
namespace Go.Gx
open Go

def findL {κ ν : Type} [BEq κ] (k : κ) : List (κ × ν) → Option ν
  | [] => none
  | p :: l => if k == p.1 then some p.2 else findL k l
def putL {κ ν : Type} [BEq κ] (k : κ) (v : ν) : List (κ × ν) → List (κ × ν)
  | [] => [(k, v)]
  | p :: l => if k == p.1 then (k, v) :: l else p :: putL k v l
theorem findL_t {κ ν : Type} [BEq κ] {k a : κ} {v : ν} {l : List (κ × ν)} (h : (k == a) = true) : findL k ((a, v) :: l) = some v := by unfold findL; rw [if_pos h]
theorem findL_f {κ ν : Type} [BEq κ] {k a : κ} {v : ν} {l : List (κ × ν)} {r : Option ν} (h : (k == a) = false) (h2 : findL k l = r) : findL k ((a, v) :: l) = r := by unfold findL; rw [if_neg (by rw [h]; simp), h2]
theorem putL_f {κ ν : Type} [BEq κ] {k a : κ} {v u : ν} {l r : List (κ × ν)} (h : (k == a) = false) (h2 : putL k u l = r) : putL k u ((a, v) :: l) = (a, v) :: r := by unfold putL; rw [if_neg (by rw [h]; simp), h2]

/-- The keys of a kind: how they lie in memory. -/
structure Keys (κ : Type) [BEq κ] where
  enc : κ → Value
  d : TypeDesc
  key : ∀ a, MapKept.IsKey d (enc a)
  same : ∀ a b, Instr.sameNow d (enc a) (enc b) = some (a == b)
def kInt (k : IntKind) : Keys Int := ⟨fun a => .int k a, .int k, fun _ => rfl, fun a b => by simp [Instr.sameNow]⟩
def kStr : Keys (List UInt8) := ⟨vstr, .string, fun _ => trivial, fun a b => by
  show some (a.toArray == b.toArray) = _
  simp⟩

def MapIs {κ ν : Type} [BEq κ] (ks : Keys κ) (vv : ν → Value) (l : List (κ × ν)) (o : Obj) : Prop :=
  ∃ es clock, o = .map es clock ∧ es.toList.map (fun e => (e.key, e.val)) = l.map fun p => (ks.enc p.1, vv p.2)

theorem findNow_none {κ ν : Type} [BEq κ] {ks : Keys κ} {vv : ν → Value} {k : κ} : ∀ {l : List (κ × ν)} {es : List MapEntry} {i : Nat}, es.map (fun e => (e.key, e.val)) = l.map (fun p => (ks.enc p.1, vv p.2)) → findL k l = none → Instr.findNow ks.d (ks.enc k) es i = some none
  | [], [], _, _, _ => rfl
  | p :: l, e :: es, i, h, hf => by
    simp only [List.map_cons, List.cons.injEq, Prod.mk.injEq] at h
    obtain ⟨⟨h1, _⟩, h3⟩ := h
    unfold findL at hf
    cases hk : k == p.1 with
    | true => rw [hk] at hf; simp at hf
    | false =>
      rw [hk] at hf
      unfold Instr.findNow
      rw [h1, ks.same, hk]
      exact findNow_none h3 (by simpa using hf)
theorem findNow_some {κ ν : Type} [BEq κ] {ks : Keys κ} {vv : ν → Value} {k : κ} {v : ν} : ∀ {l : List (κ × ν)} {es : List MapEntry} {i : Nat}, es.map (fun e => (e.key, e.val)) = l.map (fun p => (ks.enc p.1, vv p.2)) → findL k l = some v →
    ∃ j, Instr.findNow ks.d (ks.enc k) es i = some (some (j, vv v)) ∧ i ≤ j ∧ ∃ e, es[j - i]? = some e ∧ (∃ q, l[j - i]? = some q ∧ (k == q.1) = true) ∧ ∀ u, (es.modify (j - i) fun e => { e with key := ks.enc k, val := vv u }).map (fun e => (e.key, e.val)) = (putL k u l).map (fun p => (ks.enc p.1, vv p.2))
  | p :: l, e :: es, i, h, hf => by
    simp only [List.map_cons, List.cons.injEq, Prod.mk.injEq] at h
    obtain ⟨⟨h1, h2⟩, h3⟩ := h
    unfold findL at hf
    cases hk : k == p.1 with
    | true =>
      rw [hk] at hf; simp at hf; subst hf
      refine ⟨i, ?_, Nat.le_refl _, e, by simp, ⟨p, by simp, hk⟩, fun u => ?_⟩
      · unfold Instr.findNow; rw [h1, ks.same, hk, h2]
      · unfold putL
        rw [if_pos hk]
        simp [h3]
    | false =>
      rw [hk] at hf
      obtain ⟨j, h4, h5, e', h6, ⟨q, hq, hkq⟩, h7⟩ := findNow_some (i := i + 1) h3 (by simpa using hf)
      have hji : j - i = (j - (i + 1)) + 1 := by omega
      refine ⟨j, ?_, by omega, e', by rw [hji]; simpa using h6, ⟨q, by rw [hji]; simpa using hq, hkq⟩, fun u => ?_⟩
      · unfold Instr.findNow; rw [h1, ks.same, hk]; exact h4
      · unfold putL
        rw [if_neg (by rw [hk]; simp), hji]
        simp only [List.modify_succ_cons, List.map_cons, h7 u, h1, h2]

section
variable {P : Program} {n : Nat} {Q : Exit → Env → World → Prop} {ρ : Env} {w w' : World} {ops : Array Oper} {rest : List Oper} {d : Nat} {ty : TypeId} {pos : String} {after : Array Edge}
  {x y c m kx vx : Operand} {t t' : TypeId} {O0 K O : List Nat} {w0 : World} {L : List Fact} {τ : Type} {r : Rp τ}

theorem WL_makeMap {κ ν : Type} [BEq κ] (ks : Keys κ) (vv : ν → Value) (hC : Ctx O0 K w0 O w L) (hd : d < n)
    (h : ∀ b w', Ctx O0 K w0 (b :: O) w' (.obj b (MapIs ks vv []) :: L) → WL P n ops rest Q (upd ρ d (.map (some b))) w') : WL P n ops (⟨some d, .makeMap t none, ty, pos, after, none⟩ :: rest) Q ρ w := by
  refine WL_value hd ?_ (h _ _ (hC.newObj (.map #[] 0) _ ⟨#[], 0, rfl, rfl⟩))
  intros
  simp [execOp, Instr.makeMap, run_newObj_alloc]

theorem run_put {κ ν : Type} [BEq κ] [LawfulBEq κ] {ks : Keys κ} {vv : ν → Value} {l : List (κ × ν)} {i b : Nat} {k : κ} {u : ν} {kt et : TypeId} (ht : P.underlying t = some (.map kt et)) (hkt : P.underlying kt = some ks.d) (hC : Ctx O0 K w0 O w L) (hi : L[i]? = some (.obj b (MapIs ks vv l))) :
    ∃ w', (Instr.mapUpdate t (.map (some b)) (ks.enc k) (vv u)).run P w = .ok () w' ∧ Ctx O0 K w0 O w' (L.set i (.obj b (MapIs ks vv (putL k u l)))) := by
  obtain ⟨o, ho, es, clock, rfl, hes⟩ : ∃ o, w.heap[b]? = some o ∧ MapIs ks vv l o := hC.at hi
  have hb : b < w.heap.size := (Array.getElem?_eq_some_iff.1 ho).1
  have fin : ∀ (es' : Array MapEntry) (clock' : Nat), es'.toList.map (fun e => (e.key, e.val)) = (putL k u l).map (fun p => (ks.enc p.1, vv p.2)) →
      Ctx O0 K w0 O { w with heap := w.heap.setIfInBounds b (.map es' clock') } (L.set i (.obj b (MapIs ks vv (putL k u l)))) := by
    intro es' clock' h
    refine hC.turn (b := b) hi rfl rfl (by simp) rfl rfl rfl (fun k _ hk => ?_) ⟨_, ?_, es', clock', rfl, h⟩
    · simp [Array.getElem?_setIfInBounds, Ne.symm hk]
    · simp [Array.getElem?_setIfInBounds, hb]
  cases hf : findL k l with
  | none =>
    have h1 := findNow_none (i := 0) hes hf
    refine ⟨_, ?_, fin (es.push { key := ks.enc k, val := vv u, born := clock }) (clock + 1) ?_⟩
    · simp [Instr.mapUpdate, run_underlying ht, MapKept.run_getObj_map ho, MapKept.run_checkKey hkt (ks.key k), MapKept.run_findKey hkt h1, MapKept.run_setObj_map _ ho]
    · have hput : ∀ (l : List (κ × ν)), findL k l = none → putL k u l = l ++ [(k, u)] := by
        intro l
        induction l with
        | nil => intro _; rfl
        | cons p l ih =>
          intro h
          unfold findL at h
          unfold putL
          cases hk : k == p.1 with
          | true => rw [hk] at h; simp at h
          | false => rw [hk] at h; simp at h; simp [ih h]
      rw [hput l hf]
      simp [hes]
  | some v =>
    obtain ⟨j, h1, _, e, h3, ⟨q, hq, hkq⟩, h7⟩ := findNow_some (i := 0) hes hf
    have hq' : k = q.1 := by simpa using hkq
    have he : e.key = ks.enc k := by
      have : (es.toList.map fun e => (e.key, e.val))[j]? = (l.map fun p => (ks.enc p.1, vv p.2))[j]? := by rw [hes]
      simp only [List.getElem?_map, show es.toList[j]? = some e from h3, show l[j]? = some q from hq, Option.map_some] at this
      rw [hq']; exact (Prod.mk.inj (Option.some.inj this)).1
    refine ⟨_, ?_, fin (es.modify j fun e => { e with key := ks.enc k, val := vv u }) clock ?_⟩
    · have h3' : es[j]? = some e := by simpa using h3
      simp [Instr.mapUpdate, run_underlying ht, MapKept.run_getObj_map ho, MapKept.run_checkKey hkt (ks.key k), MapKept.run_findKey hkt h1, h3', he, MapKept.run_keyThatStays (ks.key k), MapKept.run_setObj_map _ ho]
    · have := h7 u
      simpa using this
theorem WL_insert {κ ν : Type} [BEq κ] [LawfulBEq κ] {ks : Keys κ} {vv : ν → Value} {l : List (κ × ν)} {i b : Nat} {k : κ} {u : ν} {kt et : TypeId} (hC : Ctx O0 K w0 O w L) (hi : L[i]? = some (.obj b (MapIs ks vv l))) (ht : P.underlying t = some (.map kt et)) (hkt : P.underlying kt = some ks.d)
    (hm : ev ρ m = .map (some b)) (hk : ev ρ kx = ks.enc k) (hv : ev ρ vx = vv u) (h : ∀ w', Ctx O0 K w0 O w' (L.set i (.obj b (MapIs ks vv (putL k u l)))) → WL P n ops rest Q ρ w') :
    WL P n ops (⟨none, .insert t m kx vx, ty, pos, after, none⟩ :: rest) Q ρ w := by
  obtain ⟨w', hr, hC'⟩ := run_put (k := k) (u := u) ht hkt hC hi
  refine WL_skipping ?_ (h _ hC')
  intros
  simp only [execOp, hm, hk, hv, Sem.run_bind, hr, Result.andThen_ok, Sem.run_pure]
theorem WL_mapUpdate {κ ν : Type} [BEq κ] [LawfulBEq κ] {ks : Keys κ} {vv : ν → Value} {l : List (κ × ν)} {i b : Nat} {k : κ} {u : ν} {kt et : TypeId} (hC : Ctx O0 K w0 O w L) (hi : L[i]? = some (.obj b (MapIs ks vv l))) (ht : P.underlying t = some (.map kt et)) (hkt : P.underlying kt = some ks.d)
    (hm : ev ρ m = .map (some b)) (hk : ev ρ kx = ks.enc k) (hv : ev ρ vx = vv u) (h : ∀ w', Ctx O0 K w0 O w' (L.set i (.obj b (MapIs ks vv (putL k u l)))) → WL P n ops rest Q ρ w') :
    WL P n ops (⟨none, .mapUpdate t m kx vx, ty, pos, after, none⟩ :: rest) Q ρ w := by
  obtain ⟨w', hr, hC'⟩ := run_put (k := k) (u := u) ht hkt hC hi
  refine WL_skipping ?_ (h _ hC')
  intros
  simp only [execOp, hm, hk, hv, Sem.run_bind, hr, Result.andThen_ok, Sem.run_pure]
theorem run_look {κ ν : Type} [BEq κ] {ks : Keys κ} {vv : ν → Value} {l : List (κ × ν)} {i b : Nat} {k : κ} {kt et : TypeId} {z : Value} (ok : Bool) (ht : P.underlying t = some (.map kt et)) (hkt : P.underlying kt = some ks.d) (hz : ∀ w, (zeroValue et).run P w = .ok z w)
    (hC : Ctx O0 K w0 O w L) (hi : L[i]? = some (.obj b (MapIs ks vv l))) :
    (Instr.lookup t (.map (some b)) (ks.enc k) ok).run P w = .ok (if ok then .tuple #[((findL k l).map vv).getD z, .bool (findL k l).isSome] else ((findL k l).map vv).getD z) w := by
  obtain ⟨o, ho, es, clock, rfl, hes⟩ : ∃ o, w.heap[b]? = some o ∧ MapIs ks vv l o := hC.at hi
  cases hf : findL k l with
  | none =>
    have h1 := findNow_none (i := 0) hes hf
    cases ok <;> simp [Instr.lookup, run_underlying ht, MapKept.run_getObj_map ho, MapKept.run_checkKey hkt (ks.key k), MapKept.run_findKey hkt h1, hz]
  | some v =>
    obtain ⟨j, h1, _⟩ := findNow_some (i := 0) hes hf
    cases ok <;> simp [Instr.lookup, run_underlying ht, MapKept.run_getObj_map ho, MapKept.run_checkKey hkt (ks.key k), MapKept.run_findKey hkt h1]
theorem WL_lookup2 {κ ν : Type} [BEq κ] {ks : Keys κ} {vv : ν → Value} {l : List (κ × ν)} {i b : Nat} {k : κ} {kt et : TypeId} {z : Value} (hC : Ctx O0 K w0 O w L) (hi : L[i]? = some (.obj b (MapIs ks vv l))) (ht : P.underlying t = some (.map kt et)) (hkt : P.underlying kt = some ks.d) (hz : ∀ w, (zeroValue et).run P w = .ok z w)
    {o : Option ν} (hf : findL k l = o) {v : Value} {s : Bool} (hv : (o.map vv).getD z = v) (hs : o.isSome = s) (hd : d < n) (hm : ev ρ x = .map (some b)) (hk : ev ρ y = ks.enc k) (h : WL P n ops rest Q (upd ρ d (.tuple [v, .bool s].toArray)) w) :
    WL P n ops (⟨some d, .lookup t x y true, ty, pos, after, none⟩ :: rest) Q ρ w := by
  subst hf; subst hv; subst hs
  refine WL_value hd ?_ h
  intros
  simp only [execOp, hm, hk, Sem.run_bind, run_look true ht hkt hz hC hi, Result.andThen_ok, Sem.run_pure, if_true]
theorem WL_lookup1 {κ ν : Type} [BEq κ] {ks : Keys κ} {vv : ν → Value} {l : List (κ × ν)} {i b : Nat} {k : κ} {kt et : TypeId} {z : Value} (hC : Ctx O0 K w0 O w L) (hi : L[i]? = some (.obj b (MapIs ks vv l))) (ht : P.underlying t = some (.map kt et)) (hkt : P.underlying kt = some ks.d) (hz : ∀ w, (zeroValue et).run P w = .ok z w)
    {o : Option ν} (hf : findL k l = o) {v : Value} (hv : (o.map vv).getD z = v) (hd : d < n) (hm : ev ρ x = .map (some b)) (hk : ev ρ y = ks.enc k) (h : WL P n ops rest Q (upd ρ d v) w) :
    WL P n ops (⟨some d, .lookup t x y false, ty, pos, after, none⟩ :: rest) Q ρ w := by
  subst hf; subst hv
  refine WL_value hd ?_ h
  intros
  simp only [execOp, hm, hk, Sem.run_bind, run_look false ht hkt hz hC hi, Result.andThen_ok, Sem.run_pure]
  rfl
theorem isSome_cons {κ ν : Type} [BEq κ] (k a : κ) (v : ν) (l : List (κ × ν)) : (findL k ((a, v) :: l)).isSome = (k == a || (findL k l).isSome) := by
  rw [findL]; cases k == a <;> simp
theorem isSome_nil {κ ν : Type} [BEq κ] (k : κ) : (findL k ([] : List (κ × ν))).isSome = false := rfl
theorem map_getD {α β : Type} (f : α → β) (z : α) (o : Option α) : (o.map f).getD (f z) = f (o.getD z) := by cases o <;> rfl
theorem own_ne {X : List Fact} (hC : Ctx O0 K w0 O w X) {f g : Fact} (hf : f ∈ X) (hg : g ∈ X) (hne : f ≠ g) {b : Nat} (h1 : b ∈ f.own) (h2 : b ∈ g.own) : False := by
  have hn := hC.nodup
  clear hC
  induction X with
  | nil => cases hf
  | cons a X ih =>
    simp only [List.flatMap_cons] at hn
    obtain ⟨n1, n2, n3⟩ := List.nodup_append.1 hn
    rcases List.mem_cons.1 hf with hf | hf
    · rcases List.mem_cons.1 hg with hg | hg
      · exact hne (hf.trans hg.symm)
      · exact n3 b (hf ▸ h1) b (List.mem_flatMap.2 ⟨g, hg, h2⟩) rfl
    · rcases List.mem_cons.1 hg with hg | hg
      · exact n3 b (hg ▸ h2) b (List.mem_flatMap.2 ⟨f, hf, h1⟩) rfl
      · exact ih hf hg n2
theorem at_succ {f g : Fact} {X : List Fact} {i : Nat} (h : X[i]? = some f) : (g :: X)[i + 1]? = some f := by simpa using h
end
end Go.Gx
