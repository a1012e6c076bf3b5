/- unsafe.SliceData and unsafe.String over a row of the call's own. -/
import Derived.Test.YtfkgbpkgggaphaaGreatDoorGxO
import Derived.Lib.UnsafeStr
namespace Go.Gx
open Go
section
variable {P : Program} {n : Nat} {Q : Exit → Env → World → Prop} {ρ : Env} {w w' : World} {ops : Array Oper} {rest : List Oper} {d : Nat} {ty : TypeId} {pos : String} {after : Array Edge}
  {x y c : Operand} {t t' : TypeId} {O0 K O : List Nat} {w0 : World} {L : List Fact} {τ : Type} {r : Rp τ}

def SdP (l : List UInt8) (a : Option Addr) (v : Value) : Prop := ∃ o, v = .pointer o ∧ (l = [] ∨ o = a)
theorem WL_unsafeSliceData {k : Nat} {e e' : TypeId} {a : Option Addr} {m cp : Nat} {l : List UInt8} (hC : Ctx O0 K w0 O w L) (hk : L[k]? = some (.row rU8 e (.slice a m cp) l)) (ht : P.underlying ty = some (.pointer e')) (hd : d < n)
    (hx : ev ρ x = .slice a m cp) (h : ∀ v w', SdP l a v → (∀ L2, Ctx O0 K w0 O w L2 → Ctx O0 K w0 O w' L2) → WL P n ops rest Q (upd ρ d v) w') :
    WL P n ops (⟨some d, .call { callee := .builtin .unsafeSliceData, args := #[x], argTypes := #[t] }, ty, pos, after, none⟩ :: rest) Q ρ w := by
  obtain ⟨xs, hr, hv⟩ : OwnRow rU8 e O w (.slice a m cp) l := hC.at hk
  obtain ⟨v, w', hrun, hP, hCw⟩ : ∃ v w', (Builtin.unsafeSliceData_ #[t] ty #[.slice a m cp]).run P w = .ok v w' ∧ SdP l a v ∧ (∀ L2, Ctx O0 K w0 O w L2 → Ctx O0 K w0 O w' L2) := by
    rcases hv with ⟨h1, h2⟩ | ⟨g, cap, cur, fr, h1, hg, hmc, hcm, hcs, htake, hfz⟩
    · simp only [Value.slice.injEq] at h1
      obtain ⟨rfl, rfl, rfl⟩ := h1
      exact ⟨_, w, rfl, ⟨none, rfl, .inr rfl⟩, fun _ h => h⟩
    · simp only [Value.slice.injEq] at h1
      obtain ⟨rfl, rfl, rfl⟩ := h1
      by_cases hc0 : cp = 0
      · subst hc0
        refine ⟨_, _, Lib.run_unsafeSliceData_zero w _ _ e' ht ⟨g, 0, none⟩ _ (e, cur.size) (by simp [World.shape?, hg]), ⟨_, rfl, .inl (List.length_eq_zero_iff.1 (Nat.le_zero.1 hmc))⟩, fun L2 h => h.call (Keep.alloc _ _ _)⟩
      · exact ⟨_, w, Lib.run_unsafeSliceData_row w _ _ _ _ _ hc0, ⟨_, rfl, .inr rfl⟩, fun _ h => h⟩
  intro ac ha
  refine wpList_plain rfl fun Kk hKk => ?_
  have hrun2 : (execOp (ev ρ) ⟨some d, .call { callee := .builtin .unsafeSliceData, args := #[x], argTypes := #[t] }, ty, pos, after, none⟩).run P w = .ok (.value v) w' := by
    simp only [execOp, resolve, invoke, builtin, Sem.run_bind, Sem.run_pure, Result.andThen_ok, List.map_toArray, List.map_cons, List.map_nil, hx, hrun]
  rw [← ha.env, ev_envOf] at hrun2
  unfold Oper.wp
  rw [hrun2]
  exact hKk _ _ (h v w' hP hCw _ (ha.put hd _))

theorem freeze_other {a : Addr} {m k : Nat} (h : k ≠ a.block) : (w.freeze a m).heap[k]? = w.heap[k]? := by
  unfold World.freeze
  split
  · rfl
  · simp [Array.getElem?_modify, Ne.symm h]
theorem freeze_size {a : Addr} {m : Nat} : (w.freeze a m).heap.size = w.heap.size := by
  unfold World.freeze
  split <;> simp
theorem freeze_os {a : Addr} {m : Nat} : (w.freeze a m).os = w.os ∧ (w.freeze a m).tape = w.tape ∧ (w.freeze a m).output = w.output := by
  unfold World.freeze
  split <;> exact ⟨rfl, rfl, rfl⟩

theorem WL_unsafeString {e pt it : TypeId} {a : Option Addr} {m cp : Nat} {l : List UInt8} {B : Fact} (hC : Ctx O0 [] w0 O w (B :: .row rU8 e (.slice a m cp) l :: L)) (hp : P.underlying pt = some (.pointer e)) (hc : P.cellsOf e = 1) (hd : d < n)
    (hx : SdP l a (ev ρ x)) (hy : ev ρ y = .int .i64 (l.length : Int)) (h : ∀ w', Ctx O0 [] w0 O w' (B :: L) → WL P n ops rest Q (upd ρ d (vstr l)) w') :
    WL P n ops (⟨some d, .call { callee := .builtin .unsafeString, args := #[x, y], argTypes := #[pt, it] }, ty, pos, after, none⟩ :: rest) Q ρ w := by
  have hC' : Ctx O0 [] w0 O w (B :: L) := hC.sublist (List.Sublist.cons_cons _ (List.sublist_cons_self _ _))
  obtain ⟨xs, hr, hv⟩ : OwnRow rU8 e O w (.slice a m cp) l := hC.at (i := 1) rfl
  obtain ⟨o, hxo, hxa⟩ := hx
  obtain ⟨w', hrun, hCw⟩ : ∃ w', (Builtin.unsafeString_ #[pt, it] ty #[.pointer o, .int .i64 (l.length : Int)]).run P w = .ok (vstr l) w' ∧ Ctx O0 [] w0 O w' (B :: L) := by
    by_cases hl : l = []
    · subst hl
      exact ⟨w, Lib.run_unsafeString_none w pt it ty o, hC'⟩
    · have hoa := hxa.resolve_left hl
      rcases hv with ⟨h1, h2⟩ | ⟨g, cap, cur, fr, h1, hg, hmc, hcm, hcs, htake, hfz⟩
      · exact absurd h2 hl
      · simp only [Value.slice.injEq] at h1
        obtain ⟨rfl, rfl, rfl⟩ := h1
        subst hoa
        have hgm := hC.own g (by simp [Fact.own, Value.ownBlock])
        have hg0 : w0.heap.size ≤ g := hgm.2.resolve_left (by simp)
        have hcell : ∀ j x, l[j]? = some x → w.cell? ((⟨g, 0, none⟩ : Addr).add j) = some (.int .u8 x.toNat) := by
          intro j x hj
          rw [Addr.add_lit, Nat.zero_add, cell_of_row w g j cur e fr hg]
          have hx2 : xs[j]? = some (Value.int .u8 x.toNat) := by
            have hgen : ∀ (l : List UInt8) (xs : List Value), RelList rU8 O w xs l → ∀ (j : Nat) (x : UInt8), l[j]? = some x → xs[j]? = some (Value.int .u8 x.toNat) := by
              intro l
              induction l with
              | nil => intro xs _ j x hj; cases j <;> simp at hj
              | cons b l ih =>
                intro xs hxs j x hj
                cases hxs with
                | cons h t =>
                  obtain rfl : _ = [_] := h
                  cases j with
                  | zero => simp at hj; subst hj; rfl
                  | succ j => simp at hj; simpa using ih _ t j x hj
            exact hgen l xs hr j x hj
          rw [← htake, List.getElem?_take] at hx2
          split at hx2
          · simpa using hx2
          · cases hx2
        refine ⟨_, Lib.run_unsafeString_row w pt it ty e hp hc g cur.size (by simp [World.shape?, hg]) l hl (by rw [hcs]; show l.length ≤ cp * 1; omega) (by simp only [maxLen] at hcm; omega) hcell, ?_⟩
        have hd' : ∀ b ∈ (B :: L).flatMap Fact.own, b ≠ g := by
          intro b hb e'
          subst e'
          have hnd := hC.nodup
          simp only [List.flatMap_cons, Fact.own, Value.ownBlock, Option.toList] at hnd hb
          obtain ⟨_, n2, n3⟩ := List.nodup_append.1 hnd
          rcases List.mem_append.1 hb with hb | hb
          · exact n3 b hb b (by simp) rfl
          · exact (List.nodup_cons.1 n2).1 hb
        refine ⟨hC'.sub, fun b hb => by rw [freeze_size]; exact hC'.lt b hb, ?_, hC'.nodup, hC'.own, fun f hf => Fact.mono (hC'.facts f hf) (fun _ h _ => h) (fun b _ hbO => freeze_other (fun e' => hbO (by rw [e']; exact hgm.1))) (by rw [freeze_size]; exact Nat.le_refl _) (fun b hb => freeze_other (hd' b (List.mem_flatMap.2 ⟨f, hf, hb⟩)))⟩
        refine ⟨freeze_os.1.trans hC'.keep.os, freeze_os.2.1.trans hC'.keep.tape, freeze_os.2.2.trans hC'.keep.output, by rw [freeze_size]; exact hC'.keep.size, fun b hb hk => ?_⟩
        rw [freeze_other (by show b ≠ g; omega)]
        exact hC'.keep.block b hb hk
  intro ac ha
  refine wpList_plain rfl fun Kk hKk => ?_
  have hrun2 : (execOp (ev ρ) ⟨some d, .call { callee := .builtin .unsafeString, args := #[x, y], argTypes := #[pt, it] }, ty, pos, after, none⟩).run P w = .ok (.value (vstr l)) w' := by
    simp only [execOp, resolve, invoke, builtin, Sem.run_bind, Sem.run_pure, Result.andThen_ok, List.map_toArray, List.map_cons, List.map_nil, hxo, hy, hrun]
  rw [← ha.env, ev_envOf] at hrun2
  unfold Oper.wp
  rw [hrun2]
  exact hKk _ _ (h w' hCw _ (ha.put hd _))
theorem WL_callS {f : FuncId} {fo : Operand} {al : List Operand} {ats : Array TypeId} {cap vl : List Value} {v : Value} {T : World → Prop} (he : Enters P f) (hd : d < n)
    (hfo : ev ρ fo = .func (.func f) #[] cap.toArray) (hargs : al.map (ev ρ) = vl) (hc : Calls P f (vl ++ cap).toArray w fun e w' => e = .returned v ∧ T w')
    (h : ∀ w', T w' → WL P n ops rest Q (upd ρ d v) w') :
    WL P n ops (⟨some d, .call { callee := .value fo, args := al.toArray, argTypes := ats }, ty, pos, after, none⟩ :: rest) Q ρ w :=
  WL_call (ζ := Unit) (g := fun _ => v) (T := fun _ => T) he hd hfo hargs (hc.mono fun _ _ h => ⟨(), h⟩) fun _ w' hT => h w' hT
end
end Go.Gx
