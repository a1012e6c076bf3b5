/- Results that lie in memory; regions whose order is drawn. -/
import Derived.Test.YtfkgbpkgggaphaaGreatDoorGxK
namespace Go.Gx
open Go

def RV (P : Program) (ρ : Env) (w : World) : List ResultVar → List Value → Prop
  | [], vs => vs = []
  | .tmp t :: rs, v :: vs => ρ t = v ∧ RV P ρ w rs vs
  | .cell a T :: rs, v :: vs => (∃ ad, ρ a = .pointer (some ad) ∧ (loadVar T ad).run P w = .ok v w) ∧ RV P ρ w rs vs
  | _ :: _, [] => False
def oneOf : List Value → Value
  | [v] => v
  | vs => .tuple vs.toArray
def fQ2 (P : Program) (rs : List ResultVar) (R : Ending → World → Prop) : Exit → Env → World → Prop
  | .normal, ρ, w | .ret, ρ, w => ∃ vs, RV P ρ w rs vs ∧ R (.returned (oneOf vs)) w
  | .panic chain, _, w => R (.panicked chain) w
  | _, _, _ => False

section
variable {P : Program} {n : Nat} {Q : Exit → Env → World → Prop} {ρ : Env} {w : World} {ops : Array Oper} {rest : List Oper} {d : Nat} {ty : TypeId} {pos : String} {after : Array Edge}
  {x y c : Operand} {t t' : TypeId} {O0 K O : List Nat} {w0 : World} {L : List Fact} {τ : Type} {r : Rp τ}

theorem run_resultsRV (fn : Func) (rs : List ResultVar) (tmps : Array Value) (hr : fn.results = rs.toArray) (vs : List Value) (h : RV P (fun t => tmps.getD t undef) w rs vs) :
    (results fn tmps).run P w = .ok (oneOf vs) w := by
  have h1 : ∀ (f : ResultVar → Sem Value), (∀ t, f (.tmp t) = pure (tmps.getD t undef)) → (∀ a T, f (.cell a T) = do loadVar T (← asAddr (tmps.getD a undef))) → ∀ (rs : List ResultVar) (vs : List Value),
      RV P (fun t => tmps.getD t undef) w rs vs → (List.mapM f rs).run P w = .ok vs w := by
    intro f hf hf2 rs
    induction rs with
    | nil => intro vs h; cases vs with
      | nil => rfl
      | cons => simp [RV] at h
    | cons r rs ih =>
      intro vs h
      cases vs with
      | nil => cases r <;> simp [RV] at h
      | cons v vs =>
        cases r with
        | tmp t =>
          obtain ⟨h1, h2⟩ := h
          simp only [List.mapM_cons, Sem.run_bind, Sem.run_pure, Result.andThen_ok, ih _ h2, hf, h1]
        | cell a T =>
          obtain ⟨⟨ad, h1, h3⟩, h2⟩ := h
          simp only [List.mapM_cons, Sem.run_bind, Sem.run_pure, Result.andThen_ok, ih _ h2, hf2, h1, asAddr, h3]
  unfold results
  rw [hr, Sem.run_bind, List.mapM_toArray, Sem.run_map, h1 _ (fun _ => rfl) (fun _ _ => rfl) rs vs h]
  simp only [Result.andThen_ok, Sem.run_pure]
  match vs with
  | [] => simp [oneOf]
  | [t] => simp [oneOf]
  | a :: b :: l => simp [oneOf]

theorem calls_of_W2 {f : FuncId} {fn : Func} {cd : Code} {rs : List ResultVar} {args : List Value} {R : Ending → World → Prop} (hf : P.funcs[f]? = some fn) (hb : fn.body = some cd) (hr : fn.results = rs.toArray)
    (hn : fn.ntmps = n) (hsz : args.length ≤ n) (h : W P n cd (fQ2 P rs R) (startEnv args) w) : Calls P f args.toArray w R := by
  refine calls_of_wp hf hb ?_
  subst hn
  have hH : Holds fn.ntmps (startEnv args) { tmps := args.toArray ++ Array.replicate (fn.ntmps - args.toArray.size) undef, defers := [] } := by
    refine ⟨rfl, by simp; omega, ?_⟩
    funext k
    simp only [envOf, startEnv, Array.getD_eq_getD_getElem?, List.getD_eq_getElem?_getD, Array.getElem?_append, List.size_toArray, List.getElem?_toArray]
    split
    · rfl
    · rename_i hk
      rw [List.getElem?_eq_none (by omega), Array.getElem?_replicate]
      split <;> rfl
  refine wp_mono (h _ hH) fun e a w' q => ?_
  obtain ⟨q1, q2⟩ := q
  cases e with
  | normal => obtain ⟨vs, h1, h2⟩ := q2; exact ⟨q1.defers, _, run_resultsRV fn rs a.tmps hr vs h1, h2⟩
  | ret => obtain ⟨vs, h1, h2⟩ := q2; exact ⟨q1.defers, _, run_resultsRV fn rs a.tmps hr vs h1, h2⟩
  | panic chain => exact ⟨q1.defers, q2⟩
  | _ => exact q2.elim

theorem WL_fieldBox' {b off off' : Nat} {S : TypeId} {fs : Array Field} {f k : Nat} {fd : Field} (hs : P.underlying S = some (.struct fs)) (hf : fs[f]? = some fd) (hk : ∀ w, (sizeOf fd.type).run P w = .ok (k + 1) w) (ho : off + fd.offset = off')
    (hd : d < n) (hx : ev ρ x = .pointer (some ⟨b, off, none⟩)) (h : WL P n ops rest Q (upd ρ d (.pointer (some ⟨b, off', none⟩))) w) :
    WL P n ops (⟨some d, .fieldAddr S x f, ty, pos, after, none⟩ :: rest) Q ρ w := by
  subst ho; exact WL_fieldBox hs hf hk hd hx h
theorem WL_storeBox' {b off i : Nat} {cells cells' vs : List Value} {T T' : TypeId} {v : Value} (hC : Ctx O0 K w0 O w L) (hi : L[i]? = some (.box b cells T)) (hv : v.cells = vs.toArray) (hz : ∀ w, (sizeOf T').run P w = .ok vs.length w)
    (h1 : vs.all Value.oneCell' = true) (hl : off + vs.length ≤ cells.length) (hc : cells.take off ++ vs ++ cells.drop (off + vs.length) = cells')
    (hx : ev ρ x = .pointer (some ⟨b, off, none⟩)) (hy : ev ρ y = v) (h : ∀ w', Ctx O0 K w0 O w' (L.set i (.box b cells' T)) → WL P n ops rest Q ρ w') :
    WL P n ops (⟨none, .store T' x y, ty, pos, after, none⟩ :: rest) Q ρ w :=
  WL_storeBox hC hi hv hz (by simpa using h1) hl hc hx hy h
/-- A row of the call's own becomes a slice that is only read. -/
theorem Ctx.freeze (hC : Ctx O0 [] w0 O w L) (hO : ∀ b, b ∈ O0 → b < w0.heap.size) {i : Nat} {T : TypeId} {v : Value} {l : List τ} (hi : L[i]? = some (.row r T v l)) : ∃ O', Ctx O0 [] w0 O' w (L.set i (.imm r.sl [v] l)) := by
  obtain ⟨xs, hr, hv⟩ : OwnRow r T O w v l := hC.at hi
  have hil : i < L.length := (List.getElem?_eq_some_iff.1 hi).1
  have hset : L.set i (.imm r.sl [v] l) = L.take i ++ .imm r.sl [v] l :: L.drop (i + 1) := by rw [List.set_eq_take_append_cons_drop, if_pos hil]
  have hL : L = L.take i ++ .row r T v l :: L.drop (i + 1) := by
    conv => lhs; rw [← List.take_append_drop i L]
    congr 1
    rw [List.drop_eq_getElem_cons hil]; congr 1; exact (List.getElem?_eq_some_iff.1 hi).2
  have hsub : (L.take i ++ L.drop (i + 1)).Sublist L := by
    conv => rhs; rw [hL]
    exact List.Sublist.append (List.Sublist.refl _) (List.sublist_cons_self _ _)
  have h' := hC.sublist hsub
  have hown : (L.set i (.imm r.sl [v] l)).flatMap Fact.own = (L.take i ++ L.drop (i + 1)).flatMap Fact.own := by
    rw [hset, List.flatMap_append, List.flatMap_cons, List.flatMap_append]; rfl
  -- the row's block
  obtain ⟨gs, hgs⟩ : ∃ gs : List Nat, gs = v.ownBlock.toList := ⟨_, rfl⟩
  have hg0 : ∀ g ∈ gs, w0.heap.size ≤ g := fun g hg => ((hC.own g (by rw [List.mem_flatMap]; exact ⟨_, List.mem_of_getElem? hi, by rw [hgs] at hg; exact hg⟩)).2).resolve_left (by simp)
  have hdis : ∀ b ∈ (L.take i ++ L.drop (i + 1)).flatMap Fact.own, b ∉ gs := by
    intro b hb hbg
    have hnd := hC.nodup
    rw [hL, List.flatMap_append, List.flatMap_cons] at hnd
    rw [List.flatMap_append] at hb
    obtain ⟨_, n2, n3⟩ := List.nodup_append.1 hnd
    obtain ⟨_, _, n4⟩ := List.nodup_append.1 n2
    rw [hgs] at hbg
    rcases List.mem_append.1 hb with hb | hb
    · exact n3 b hb b (List.mem_append_left _ hbg) rfl
    · exact n4 b hbg b hb rfl
  refine ⟨O.filter fun b => decide (b ∉ gs), ?_, fun b hb => hC.lt b (List.mem_filter.1 hb).1, hC.keep, by rw [hown]; exact h'.nodup, ?_, ?_⟩
  · intro b hb
    refine List.mem_filter.2 ⟨hC.sub b hb, ?_⟩
    simp only [decide_eq_true_eq]
    intro hbg
    have := hO b hb; have := hg0 b hbg; omega
  · rw [hown]
    intro b hb
    exact ⟨List.mem_filter.2 ⟨(h'.own b hb).1, by simpa using hdis b hb⟩, (h'.own b hb).2⟩
  · intro f hf
    have hOO : ∀ b, b ∈ O.filter (fun b => decide (b ∉ gs)) → b < w.heap.size → b ∈ O := fun b hb _ => (List.mem_filter.1 hb).1
    rw [hset] at hf
    have hf' : f = .imm r.sl [v] l ∨ f ∈ L.take i ++ L.drop (i + 1) := by
      rcases List.mem_append.1 hf with hf | hf
      · exact .inr (List.mem_append_left _ hf)
      · rcases List.mem_cons.1 hf with hf | hf
        · exact .inl hf
        · exact .inr (List.mem_append_right _ hf)
    rcases hf' with rfl | hf'
    · have hr' := hr.mono hOO (fun _ _ _ => rfl) (Nat.le_refl _)
      rcases hv with ⟨rfl, rfl⟩ | ⟨g, cap, cur, fr, rfl, hg, hmc, _, hcs, htake, _⟩
      · exact sl_nil r _ w
      · refine sl_new hg (fun hm => ?_) hr' hmc (by rw [← htake]; simp)
        have := (List.mem_filter.1 hm).2
        simp [hgs, Value.ownBlock] at this
    · exact Fact.mono (h'.facts f hf') hOO (fun _ _ _ => rfl) (Nat.le_refl _) (fun _ _ => rfl)
theorem Ctx.loadA (hC : Ctx O0 K w0 O w L) {i b : Nat} {cells : List Value} {T T' : TypeId} (hi : L[i]? = some (.box b cells T)) (ha : ∀ w, (isAgg T').run P w = .ok true w) (hz : ∀ w, (sizeOf T').run P w = .ok cells.length w) :
    (loadVar T' ⟨b, 0, none⟩).run P w = .ok (.agg cells.toArray) w := by
  have := run_loadCells_list (P := P) w ⟨b, 0, none⟩ cells (fun j v hv => by rw [Addr.add_lit, box_cell (hC.at hi), Nat.zero_add]; exact hv)
  simp [loadVar, ha, hz, this]
theorem Ctx.load1 (hC : Ctx O0 K w0 O w L) {i b : Nat} {v : Value} {T T' : TypeId} (hi : L[i]? = some (.box b [v] T)) (ha : ∀ w, (isAgg T').run P w = .ok false w) :
    (loadVar T' ⟨b, 0, none⟩).run P w = .ok v w := by
  have h := box_cell (off := 0) (hC.at hi)
  simp [loadVar, ha, h]
end
end Go.Gx
