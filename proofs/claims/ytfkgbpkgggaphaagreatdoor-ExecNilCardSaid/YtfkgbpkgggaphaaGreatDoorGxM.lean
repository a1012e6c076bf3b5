/- Regions whose order is drawn. -/
import Derived.Test.YtfkgbpkgggaphaaGreatDoorGxL
import Derived.Orders
namespace Go.Gx
open Go

def setS (S : Nat → Bool) (i : Nat) : Nat → Bool := fun k => if k = i then true else S k
/-- Each operation hangs on earlier ones alone. -/
def backOk (ops : List Oper) : Bool := ops.zipIdx.all fun p => p.1.after.toList.all fun e => !Region.binds .any e || decide (e.on < p.2)
/-- From place p on each operation hangs on all before it. -/
def tailOk (ops : List Oper) (p : Nat) : Bool := ops.zipIdx.all fun q => decide (q.2 < p) || ((List.range q.2).all fun j => q.1.after.toList.any fun e => Region.binds .any e && e.on == j) || (decide (p < q.2) && q.1.after.toList.any fun e => Region.binds .any e && e.on == q.2 - 1)

section
variable {P : Program} {n : Nat} {Q : Exit → Env → World → Prop} {ρ : Env} {w : World}

theorem Oper.wp_congrQ {o : Oper} {a : Act} {w : World} {K : Act → World → Prop} {Q Q' : Exit → Act → World → Prop} (h1 : ∀ c a w, Q (.panic c) a w → Q' (.panic c) a w) (h2 : LetsOut Q → LetsOut Q')
    (hh : o.wp P a w K Q) : o.wp P a w K Q' := by
  unfold Oper.wp at *
  generalize (execOp a.eval o).run P w = r at *
  cases r with
  | ok n w' =>
    cases n <;> simp only [Oper.upon] at hh ⊢ <;>
      first
        | exact hh
        | exact Calls.mono hh (fun e w'' he => by cases e <;> first | exact he | exact h1 _ _ _ he | exact h2 he)
  | halt x w' => cases x <;> simp only [Oper.upon] at hh ⊢ <;> first | exact h1 _ _ _ hh | exact hh

theorem wpOp_of_WL {l : List Oper} {i : Nat} {o : Oper} {K : Env → World → Prop} {Kc : Act → World → Prop} (ho : l[i]? = some o) (h : WL P n l.toArray [o] (thenQ K Q) ρ w) (hK : ∀ a w, Holds n (envOf a) a → K (envOf a) w → Kc a w) {a : Act} (ha : Holds n ρ a) :
    wpOp P l.toArray (Post n Q) i Kc a w := by
  have h' := h a ha
  unfold wpOp
  have ho' : l.toArray[i]? = some o := by simpa using ho
  rw [ho']
  unfold wpList at h'
  dsimp only
  have e1 : ∀ c a w, Post n (thenQ K Q) (.panic c) a w → Post n Q (.panic c) a w := fun c a w h => h
  have e2 : LetsOut (Post n (thenQ K Q)) → LetsOut (Post n Q) := fun ⟨a, w, h⟩ => ⟨a, w, h⟩
  split
  · rename_i hw
    rw [if_pos hw] at h'
    rcases h' with h' | ⟨h1, h2⟩
    · left
      refine Oper.wp_congrQ e1 e2 (Oper.wp_mono (fun a w hq => ?_) h')
      exact hK a w hq.1 hq.2
    · exact .inr ⟨h1, e2 h2⟩
  · rename_i hw
    rw [if_neg hw] at h'
    exact hK _ _ h'.1 h'.2

theorem back_of {l : List Oper} (h : backOk l = true) {i : Nat} {o : Oper} (hi : l[i]? = some o) : ∀ e ∈ o.after, Region.binds .any e = true → e.on < i := by
  intro e he hbd
  unfold backOk at h
  rw [List.all_eq_true] at h
  have := h (o, i) (by rw [List.mem_iff_getElem?]; exact ⟨i, by simp [List.getElem?_zipIdx, hi]⟩)
  rw [List.all_eq_true] at this
  have := this e (by simpa using he)
  rw [hbd] at this
  simpa using this
theorem tail_of {l : List Oper} {p : Nat} (h : tailOk l p = true) {i : Nat} {o : Oper} (hi : l[i]? = some o) (hp : p ≤ i) : (∀ j, j < i → ∃ e ∈ o.after, Region.binds .any e = true ∧ e.on = j) ∨ (p < i ∧ ∃ e ∈ o.after, Region.binds .any e = true ∧ e.on = i - 1) := by
  unfold tailOk at h
  rw [List.all_eq_true] at h
  have := h (o, i) (by rw [List.mem_iff_getElem?]; exact ⟨i, by simp [List.getElem?_zipIdx, hi]⟩)
  simp only [Bool.or_eq_true, decide_eq_true_eq, Bool.and_eq_true] at this
  rcases this with (h | h) | ⟨h1, h⟩
  · omega
  · left
    intro j hj
    rw [List.all_eq_true] at h
    have := h j (List.mem_range.2 hj)
    rw [List.any_eq_true] at this
    obtain ⟨e, he, hb⟩ := this
    simp only [Bool.and_eq_true, beq_iff_eq] at hb
    exact ⟨e, by simpa using he, hb⟩
  · right
    rw [List.any_eq_true] at h
    obtain ⟨e, he, hb⟩ := h
    simp only [Bool.and_eq_true, beq_iff_eq] at hb
    exact ⟨h1, e, by simpa using he, hb⟩

theorem mem_ready {l : List Oper} {listed : Array Bool} {i : Nat} : i ∈ Region.ready .any l.toArray listed ↔ ∃ o, l[i]? = some o ∧ listed.getD i true = false ∧ ∀ e ∈ o.after, Region.binds .any e = true → listed.getD e.on false = true := by
  unfold Region.ready
  simp only [List.mem_filter, List.mem_range, List.size_toArray, Bool.and_eq_true]
  constructor
  · rintro ⟨h1, h2, h3⟩
    refine ⟨l[i], List.getElem?_eq_getElem h1, by simpa using h2, ?_⟩
    have : l.toArray[i]? = some l[i] := by simp [h1]
    rw [this] at h3
    simp only [Option.map_some, Option.getD_some, Array.all_eq_true_iff_forall_mem, Bool.or_eq_true, Bool.not_eq_true'] at h3
    intro e he hb
    rcases h3 e he with h | h
    · rw [h] at hb; cases hb
    · exact h
  · rintro ⟨o, ho, h2, h3⟩
    have hi : i < l.length := (List.getElem?_eq_some_iff.1 ho).1
    refine ⟨hi, by simpa using h2, ?_⟩
    have : l.toArray[i]? = some o := by simpa using ho
    rw [this]
    simp only [Option.map_some, Option.getD_some, Array.all_eq_true_iff_forall_mem, Bool.or_eq_true, Bool.not_eq_true']
    intro e he
    cases hb : Region.binds .any e with
    | false => exact .inl rfl
    | true => exact .inr (h3 e he hb)

/-- The least operation that is not listed is ready. -/
theorem ready_ne {l : List Oper} (hb : backOk l = true) {listed : Array Bool} (hs : listed.size = l.length) (h : Region.ready .any l.toArray listed = []) : ∀ i, i < l.length → listed.getD i true = true := by
  intro i
  induction i using Nat.strongRecOn with
  | _ i ih =>
    intro hi
    cases hl : listed.getD i true with
    | true => rfl
    | false =>
      exfalso
      have : i ∈ Region.ready .any l.toArray listed := by
        rw [mem_ready]
        refine ⟨l[i], List.getElem?_eq_getElem hi, hl, fun e he hbd => ?_⟩
        have hlt := back_of hb (List.getElem?_eq_getElem hi) e he hbd
        have := ih e.on hlt (by omega)
        rw [Array.getD_eq_getD_getElem?, Array.getElem?_eq_getElem (by omega)] at this ⊢
        simpa using this
      rw [h] at this
      cases this

theorem getD_set {listed : Array Bool} {i j : Nat} {b : Bool} (hi : i < listed.size) : (listed.setIfInBounds i true).getD j b = if j = i then true else listed.getD j b := by
  rw [Array.getD_eq_getD_getElem?, Array.getElem?_setIfInBounds]
  by_cases h : i = j
  · subst h; simp [hi]
  · rw [if_neg h, if_neg (fun e => h e.symm), ← Array.getD_eq_getD_getElem?]

theorem tail_walk {l : List Oper} {p : Nat} (hb : backOk l = true) (ht : tailOk l p = true) : ∀ (fuel q : Nat) (listed : Array Bool), p ≤ q → q ≤ l.length → l.length - q ≤ fuel → listed.size = l.length → (∀ j, j < l.length → listed.getD j true = decide (j < q)) →
    ∀ (a : Act) (w : World), wpList P l.toArray (Post n Q) (l.drop q) a w → wpAny P .any l.toArray (Post n Q) fuel listed a w := by
  intro fuel
  induction fuel with
  | zero =>
    intro q listed hpq hq hf hs hl a w h
    have hq' : q = l.length := by omega
    subst hq'
    refine ⟨?_, by simpa [wpList] using h⟩
    cases hr : Region.ready .any l.toArray listed with
    | nil => rfl
    | cons i _ =>
      have : i ∈ Region.ready .any l.toArray listed := by rw [hr]; simp
      obtain ⟨o, ho, h2, _⟩ := mem_ready.1 this
      have hi := (List.getElem?_eq_some_iff.1 ho).1
      rw [hl i hi] at h2; simp at h2; omega
  | succ fuel ih =>
    intro q listed hpq hq hf hs hl a w h
    refine ⟨fun hr => ?_, fun i hi => ?_⟩
    · have hq' : q = l.length := by
        rcases Nat.lt_or_ge q l.length with hlt | hge
        · have := ready_ne hb hs hr q hlt
          rw [hl q hlt] at this; simp at this
        · omega
      subst hq'
      simpa [wpList] using h
    · obtain ⟨o, ho, h2, h3⟩ := mem_ready.1 hi
      have hil := (List.getElem?_eq_some_iff.1 ho).1
      rw [hl i hil] at h2
      have hqi : q ≤ i := by simpa using h2
      have hiq : i = q := by
        rcases Nat.lt_or_ge q i with hlt | hge
        · obtain ⟨q', hq'1, hq'2, e, he, hbe, heq⟩ : ∃ q', q ≤ q' ∧ q' < i ∧ ∃ e ∈ o.after, Region.binds .any e = true ∧ e.on = q' := by
            rcases tail_of ht ho (by omega) with h | ⟨h1, h⟩
            · exact ⟨q, Nat.le_refl _, hlt, h q hlt⟩
            · exact ⟨i - 1, by omega, by omega, h⟩
          have := h3 e he hbe
          rw [heq] at this
          have h4 := hl q' (by omega)
          rw [show decide (q' < q) = false from by simp; omega] at h4
          rw [Array.getD_eq_getD_getElem?, Array.getElem?_eq_getElem (by omega)] at this h4
          simp at this h4
          rw [this] at h4; cases h4
        · omega
      subst hiq
      rw [List.drop_eq_getElem_cons hil, (List.getElem?_eq_some_iff.1 ho).2] at h
      unfold wpOp
      rw [show l.toArray[i]? = some o by simpa using ho]
      dsimp only
      have hl' : ∀ j, j < l.length → (listed.setIfInBounds i true).getD j true = decide (j < i + 1) := by
        intro j hj
        rw [getD_set (by omega)]
        by_cases e : j = i
        · subst e; simp
        · rw [if_neg e, hl j hj]; congr 1; apply propext; omega
      have hK : ∀ a w, wpList P l.toArray (Post n Q) (l.drop (i + 1)) a w → wpAny P .any l.toArray (Post n Q) fuel (listed.setIfInBounds i true) a w :=
        ih (i + 1) _ (by omega) (by omega) (by omega) (by simpa using hs) hl'
      unfold wpList at h
      split
      · rename_i hw
        rw [if_pos hw] at h
        exact h.imp (Oper.wp_mono hK) id
      · rename_i hw
        rw [if_neg hw] at h
        exact hK _ _ h

theorem W_drawn {l : List Oper} {id : Nat} (p : Nat) (Inv : (Nat → Bool) → Env → World → Prop) (hm : P.follows .mixedOrders = true) (hb : backOk l = true) (ht : tailOk l p = true) (hp : p ≤ l.length)
    (h0 : Inv (fun _ => false) ρ w.drew)
    (hstep : ∀ (K : Env → World → Prop) (S : Nat → Bool) (ρ : Env) (w : World) (i : Nat) (o : Oper), i < p → S i = false → l[i]? = some o → (∀ e ∈ o.after, Region.binds .any e = true → S e.on = true) → Inv S ρ w →
      (∀ ρ' w', Inv (setS S i) ρ' w' → K ρ' w') → WL P n l.toArray [o] (thenQ K Q) ρ w)
    (hfin : ∀ (S : Nat → Bool) (ρ : Env) (w : World), (∀ i, i < p → S i = true) → Inv S ρ w → WL P n l.toArray (l.drop p) Q ρ w) : W P n (.region id l.toArray true) Q ρ w := by
  intro a ha
  refine wp_region_any hm ?_
  have key : ∀ (fuel : Nat) (listed : Array Bool) (S : Nat → Bool) (ρ : Env) (w : World) (a : Act), Holds n ρ a → listed.size = l.length → (∀ j, j < l.length → listed.getD j true = S j) → (∀ j, p ≤ j → j < l.length → S j = false) → Inv S ρ w →
      ((List.range l.length).filter fun j => !S j).length ≤ fuel → wpAny P .any l.toArray (Post n Q) fuel listed a w := by
    intro fuel
    induction fuel with
    | zero =>
      intro listed S ρ w a ha hs hl htl hI hc
      have hall : ∀ j, j < l.length → S j = true := by
        intro j hj
        cases h : S j with
        | true => rfl
        | false =>
          have : j ∈ (List.range l.length).filter fun j => !S j := by simp [hj, h]
          rw [List.length_eq_zero_iff.1 (Nat.le_zero.1 hc)] at this
          cases this
      have hpl : p = l.length := by
        rcases Nat.lt_or_ge p l.length with h | h
        · have := htl p (Nat.le_refl _) h; rw [hall p h] at this; cases this
        · omega
      refine tail_walk hb ht 0 p listed (Nat.le_refl _) hp (by omega) hs (fun j hj => by rw [hl j hj, hall j hj]; simp; omega) a w (hfin S ρ w (fun i hi => hall i (by omega)) hI a ha)
    | succ fuel ih =>
      intro listed S ρ w a ha hs hl htl hI hc
      by_cases hall : ∀ i, i < p → S i = true
      · refine tail_walk hb ht (fuel + 1) p listed (Nat.le_refl _) hp ?_ hs (fun j hj => ?_) a w (hfin S ρ w hall hI a ha)
        · have h1 : (List.range' p (l.length - p)).Sublist ((List.range l.length).filter fun j => !S j) := by
            have h2 : (List.range' p (l.length - p)) = (List.range' p (l.length - p)).filter fun j => !S j := by
              symm; rw [List.filter_eq_self]
              intro j hj
              rw [List.mem_range'_1] at hj
              simp [htl j hj.1 (by omega)]
            rw [h2]
            refine List.Sublist.filter _ ?_
            rw [List.range_eq_range']
            have : List.range' 0 l.length = List.range' 0 p ++ List.range' p (l.length - p) := by
              have h4 := List.range'_append_1 (s := 0) (m := p) (n := l.length - p)
              rw [Nat.zero_add] at h4
              rw [h4]; congr 1; omega
            rw [this]
            exact List.sublist_append_right _ _
          have := h1.length_le
          simp at this; omega
        · rw [hl j hj]
          rcases Nat.lt_or_ge j p with h | h
          · rw [hall j h]; simp [h]
          · rw [htl j h hj]; simp; omega
      · refine ⟨fun hr => ?_, fun i hi => ?_⟩
        · exfalso
          apply hall
          intro i hi
          rw [← hl i (by omega)]
          exact ready_ne hb hs hr i (by omega)
        · obtain ⟨o, ho, h2, h3⟩ := mem_ready.1 hi
          have hil := (List.getElem?_eq_some_iff.1 ho).1
          have h3' : ∀ e ∈ o.after, Region.binds .any e = true → S e.on = true := by
            intro e he hbe
            have := h3 e he hbe
            have hlt := back_of hb ho e he hbe
            rw [← hl e.on (by omega)]
            rw [Array.getD_eq_getD_getElem?, Array.getElem?_eq_getElem (by omega)] at this ⊢
            simpa using this
          have hip : i < p := by
            rcases Nat.lt_or_ge i p with h | h
            · exact h
            · exfalso
              apply hall
              intro j hj
              rcases tail_of ht ho h with h5 | ⟨h4, e, he, hbe, heq⟩
              · obtain ⟨e, he, hbe, heq⟩ := h5 j (by omega)
                rw [← heq]; exact h3' e he hbe
              · have := h3' e he hbe
                rw [heq, htl (i - 1) (by omega) (by omega)] at this
                cases this
          have hSi : S i = false := by rw [← hl i hil]; exact h2
          refine wpOp_of_WL ho (hstep (fun ρ' w' => Inv (setS S i) ρ' w') S ρ w i o hip hSi ho h3' hI fun _ _ h => h) (fun a' w' ha' hK => ?_) ha
          refine ih _ (setS S i) _ _ a' ha' (by simpa using hs) ?_ ?_ hK ?_
          · intro j hj
            rw [getD_set (by omega)]
            unfold setS
            split
            · rfl
            · exact hl j hj
          · intro j hj1 hj2
            unfold setS
            rw [if_neg (by omega)]
            exact htl j hj1 hj2
          · have hlt : ((List.range l.length).filter fun j => !setS S i j).length < ((List.range l.length).filter fun j => !S j).length := by
              have e1 : ((List.range l.length).filter fun j => !setS S i j) = (((List.range l.length).filter fun j => !S j)).filter fun j => decide (j ≠ i) := by
                rw [List.filter_filter]
                congr 1; funext j
                unfold setS
                by_cases e : j = i <;> simp [e]
              rw [e1]
              refine List.length_filter_lt_length_iff_exists.2 ⟨i, by simp [hil, hSi], by simp⟩
            omega
  have := key l.toArray.size (Array.replicate l.toArray.size false) (fun _ => false) ρ w.drew a ha (by simp) (fun j hj => by rw [Array.getD_eq_getD_getElem?, Array.getElem?_replicate]; simp [hj]) (fun _ _ _ => rfl) h0 (by have h := List.length_filter_le (fun _ : Nat => !false) (List.range l.length); rw [List.length_range] at h; simpa using h)
  exact this
end
end Go.Gx
namespace Go.Gx
open Go
theorem base_at (X : List Fact) {Lb : List Fact} {j : Nat} {f : Fact} (h : Lb[j]? = some f) : (X ++ Lb)[X.length + j]? = some f := by
  rw [List.getElem?_append_right (by omega)]; simpa using h
theorem at_mem {X Lb : List Fact} {f : Fact} (h : f ∈ X) : ∃ i : Nat, (X ++ Lb)[i]? = some f := by
  obtain ⟨i, hi⟩ := List.mem_iff_getElem?.1 h
  have : i < X.length := (List.getElem?_eq_some_iff.1 hi).1
  exact ⟨i, by rw [List.getElem?_append_left this]; exact hi⟩
/-- The new facts that are wanted, ahead of the old ones. -/
theorem Ctx.ofX {O0 K O : List Nat} {w0 w : World} {X Lb Ln : List Fact} (h : Ctx O0 K w0 O w (X ++ Lb)) (hm : ∀ f, f ∈ Ln → f ∈ X) (hn : (Ln.flatMap Fact.own).Nodup) : Ctx O0 K w0 O w (Ln ++ Lb) := by
  have hnd := h.nodup
  rw [List.flatMap_append] at hnd
  obtain ⟨_, n2, n3⟩ := List.nodup_append.1 hnd
  have hsub : ∀ b, b ∈ Ln.flatMap Fact.own → b ∈ X.flatMap Fact.own := by
    intro b hb
    obtain ⟨f, hf, hbf⟩ := List.mem_flatMap.1 hb
    exact List.mem_flatMap.2 ⟨f, hm f hf, hbf⟩
  refine ⟨h.sub, h.lt, h.keep, ?_, ?_, ?_⟩
  · rw [List.flatMap_append]
    exact List.nodup_append.2 ⟨hn, n2, fun a ha b hb => n3 a (hsub a ha) b hb⟩
  · intro b hb
    rw [List.flatMap_append] at hb
    refine h.own b ?_
    rw [List.flatMap_append]
    rcases List.mem_append.1 hb with hb | hb
    · exact List.mem_append_left _ (hsub b hb)
    · exact List.mem_append_right _ hb
  · intro f hf
    rcases List.mem_append.1 hf with hf | hf
    · exact h.facts f (List.mem_append_left _ (hm f hf))
    · exact h.facts f (List.mem_append_right _ hf)
theorem Ctx.drewC {O0 K O : List Nat} {w0 w : World} {L : List Fact} (h : Ctx O0 K w0 O w L) : Ctx O0 K w0 O w.drew L := h.call (Keep.drew [] w)
theorem setS_same (S : Nat → Bool) (i : Nat) : setS S i i = true := by simp [setS]
end Go.Gx
namespace Go.Gx
open Go
def predOf (l : List Oper) (i j : Nat) : Bool := (l[i]?).any fun o => o.after.toList.any fun e => Region.binds .any e && e.on == j
theorem W_drawn' {P : Program} {n : Nat} {Q : Exit → Env → World → Prop} {ρ : Env} {w : World} {l : List Oper} {id : Nat} (p : Nat) (Inv : (Nat → Bool) → Env → World → Prop) (hm : P.follows .mixedOrders = true) (hb : backOk l = true) (ht : tailOk l p = true) (hp : p ≤ l.length)
    (h0 : Inv (fun _ => false) ρ w.drew)
    (hstep : ∀ (K : Env → World → Prop) (S : Nat → Bool) (ρ : Env) (w : World) (i : Nat), i < p → (∀ j, predOf l i j = true → S j = true) → Inv S ρ w →
      (∀ ρ' w', Inv (setS S i) ρ' w' → K ρ' w') → ∀ o, l[i]? = some o → WL P n l.toArray [o] (thenQ K Q) ρ w)
    (hfin : ∀ (S : Nat → Bool) (ρ : Env) (w : World), (∀ i, i < p → S i = true) → Inv S ρ w → WL P n l.toArray (l.drop p) Q ρ w) : W P n (.region id l.toArray true) Q ρ w :=
  W_drawn p Inv hm hb ht hp h0 (fun K S ρ w i o hi _ ho hpre hI hK => hstep K S ρ w i hi (fun j hj => by
    unfold predOf at hj
    rw [ho] at hj
    simp only [Option.any_some, List.any_eq_true, Bool.and_eq_true, beq_iff_eq] at hj
    obtain ⟨e, he, hb, rfl⟩ := hj
    exact hpre e (by simpa using he) hb) hI hK o ho) hfin
theorem W_drawnF {P : Program} {n : Nat} {Q : Exit → Env → World → Prop} {ρ : Env} {w : World} {l : List Oper} {id : Nat} (p : Nat) (Inv : (Nat → Bool) → Env → World → Prop) (hm : P.follows .mixedOrders = true) (hb : backOk l = true) (ht : tailOk l p = true) (hp : p ≤ l.length)
    (h0 : Inv (fun _ => false) ρ w.drew)
    (hstep : ∀ (K : Env → World → Prop) (S : Nat → Bool) (ρ : Env) (w : World) (i : Nat), i < p → S i = false → (∀ j, predOf l i j = true → S j = true) → Inv S ρ w →
      (∀ ρ' w', Inv (setS S i) ρ' w' → K ρ' w') → ∀ o, l[i]? = some o → WL P n l.toArray [o] (thenQ K Q) ρ w)
    (hfin : ∀ (S : Nat → Bool) (ρ : Env) (w : World), (∀ i, i < p → S i = true) → Inv S ρ w → WL P n l.toArray (l.drop p) Q ρ w) : W P n (.region id l.toArray true) Q ρ w :=
  W_drawn p Inv hm hb ht hp h0 (fun K S ρ w i o hi hS ho hpre hI hK => hstep K S ρ w i hi hS (fun j hj => by
    unfold predOf at hj
    rw [ho] at hj
    simp only [Option.any_some, List.any_eq_true, Bool.and_eq_true, beq_iff_eq] at hj
    obtain ⟨e, he, hb, rfl⟩ := hj
    exact hpre e (by simpa using he) hb) hI hK o ho) hfin
end Go.Gx
