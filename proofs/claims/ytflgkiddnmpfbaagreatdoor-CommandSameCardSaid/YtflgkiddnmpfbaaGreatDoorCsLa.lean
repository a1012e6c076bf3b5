/- CommandSame, the plain law: Same of the program and of the reference are equality. -/
import Derived.Test.YtflgkiddnmpfbaaGreatDoorCsFa
set_option linter.unusedVariables false
namespace Go.Proofs.YtflgkiddnmpfbaaGreatDoor
open Go Go.Gx Go.Mx
theorem wr {x : Int} (h : -9223372036854775808 ≤ x) (h' : x ≤ 9223372036854775807) : IntKind.wrap .i64 x = x := by
  simp [IntKind.wrap, IntKind.bits, IntKind.signed]; omega
theorem sget_nat {α : Type} {l : List α} {i : Nat} (h : i < l.length) : sget l (i : Int) = some l[i] := by
  unfold sget; rw [if_pos (by omega)]; simp [h]
theorem drop_one {α : Type} {l : List α} {i : Nat} (h : i < l.length) : l.drop i = l[i] :: l.drop (i + 1) := List.drop_eq_getElem_cons h
theorem beq_dec {α : Type} [BEq α] [LawfulBEq α] [DecidableEq α] (a b : α) : (a == b) = decide (a = b) := by
  by_cases h : a = b <;> simp [h]
theorem range_eq (a b : ApiRange) : ((a.Lo == b.Lo) && (a.Hi == b.Hi)) = decide (a = b) := by
  cases a; cases b; simp only [ApiRange.mk.injEq, Bool.decide_and]; rfl
theorem drop_eq {α : Type} {a b : List α} {i : Nat} (hi : i < a.length) (hb : i < b.length) : (a.drop i = b.drop i) ↔ (a[i] = b[i] ∧ a.drop (i + 1) = b.drop (i + 1)) := by
  rw [drop_one hi, drop_one hb, List.cons.injEq]

theorem equal_from (N : Nat) (a b : List ApiRange) (hl : a.length = b.length) (hm : a.length ≤ maxLen) : ∀ (m i : Nat), i ≤ a.length → a.length < m + i → F_slices_Equal_api_Range_api_Range_l1 N a b m ((a.length : Int), (i : Int)) = some (decide (a.drop i = b.drop i))
  | 0, i, _, h => by omega
  | m + 1, i, h, h' => by
    unfold F_slices_Equal_api_Range_api_Range_l1
    have hM : a.length ≤ 9223372036854775807 := Nat.le_trans hm (by decide)
    by_cases hi : i < a.length
    · have hib : i < b.length := by omega
      rw [if_pos (by rw [decide_eq_true_eq]; omega)]
      simp only [sget_nat hi, sget_nat hib, Option.bind_some, range_eq]
      rw [wr (by omega) (by omega)]
      simp only [drop_eq hi hib]
      have ih := equal_from N a b hl hm m (i + 1) (by omega) (by omega)
      by_cases hx : a[i] = b[i]
      · rw [if_neg (by simp [hx])]
        rw [show ((i : Int) + 1) = ((i + 1 : Nat) : Int) by omega, ih]
        simp only [hx, true_and]
      · rw [if_pos (by simp [hx])]
        simp only [hx, false_and, decide_false]
    · rw [if_neg (by rw [decide_eq_true_eq]; omega)]
      rw [List.drop_of_length_le (by omega), List.drop_of_length_le (by omega)]
      simp [F_slices_Equal_api_Range_api_Range_j1]
theorem equal_says {N : Nat} (a b : List ApiRange) (hm : a.length ≤ maxLen) (hN : a.length < N) : F_slices_Equal_api_Range_api_Range N a b = some (decide (a = b)) := by
  unfold F_slices_Equal_api_Range_api_Range
  by_cases hl : a.length = b.length
  · rw [if_neg (by simp [hl])]
    have := equal_from N a b hl hm N 0 (by omega) (by omega)
    simpa using this
  · rw [if_pos (by simp; omega)]
    have : a ≠ b := fun e => hl (by rw [e])
    simp [this]
theorem refset_from (N : Nat) (t1 : List UInt8) (k1 : Int) (m1 : List UInt8) (a : List ApiRange) (i1 o1 : Int) (s1 : Bool) (f1 : UInt8) (d1 : List UInt8) (t2 : List UInt8) (k2 : Int) (m2 : List UInt8) (b : List ApiRange) (i2 o2 : Int) (s2 : Bool) (f2 : UInt8) (d2 : List UInt8)
    (hl : a.length = b.length) (hm : a.length ≤ maxLen) : ∀ (m i : Nat), i ≤ a.length → a.length < m + i → F_ref07_Same_l1 N t1 k1 m1 a i1 o1 s1 f1 d1 t2 k2 m2 b i2 o2 s2 f2 d2 m (i : Int) = if a.drop i = b.drop i then F_ref07_Same_j3 N t1 k1 m1 a i1 o1 s1 f1 d1 t2 k2 m2 b i2 o2 s2 f2 d2 else some false
  | 0, i, _, h => by omega
  | m + 1, i, h, h' => by
    unfold F_ref07_Same_l1
    have hM : a.length ≤ 9223372036854775807 := Nat.le_trans hm (by decide)
    by_cases hi : i < a.length
    · have hib : i < b.length := by omega
      rw [if_pos (by rw [decide_eq_true_eq]; omega)]
      simp only [sget_nat hi, sget_nat hib, Option.bind_some, range_eq]
      rw [wr (by omega) (by omega)]
      simp only [drop_eq hi hib]
      have ih := refset_from N t1 k1 m1 a i1 o1 s1 f1 d1 t2 k2 m2 b i2 o2 s2 f2 d2 hl hm m (i + 1) (by omega) (by omega)
      by_cases hx : a[i] = b[i]
      · rw [if_neg (by simp [hx])]
        rw [show ((i : Int) + 1) = ((i + 1 : Nat) : Int) by omega, ih]
        simp only [hx, true_and]
      · rw [if_pos (by simp [hx])]
        simp only [hx, false_and, if_false]
    · rw [if_neg (by rw [decide_eq_true_eq]; omega)]
      rw [List.drop_of_length_le (by omega), List.drop_of_length_le (by omega)]
      simp
theorem ref_same {N : Nat} (a b : ApiCommand) (hm : a.Set.length ≤ maxLen) (hN : a.Set.length < N) : F_ref07_Same N a b = some (decide (a = b)) := by
  obtain ⟨t1, k1, m1, s1, i1, o1, l1, f1, d1⟩ := a
  obtain ⟨t2, k2, m2, s2, i2, o2, l2, f2, d2⟩ := b
  simp only at hm hN
  have hj : s1.length = s2.length → F_ref07_Same_j1 N t1 k1 m1 s1 i1 o1 l1 f1 d1 t2 k2 m2 s2 i2 o2 l2 f2 d2 = if s1 = s2 then F_ref07_Same_j3 N t1 k1 m1 s1 i1 o1 l1 f1 d1 t2 k2 m2 s2 i2 o2 l2 f2 d2 else some false := fun hl => by
    unfold F_ref07_Same_j1
    have := refset_from N t1 k1 m1 s1 i1 o1 l1 f1 d1 t2 k2 m2 s2 i2 o2 l2 f2 d2 hl hm N 0 (by omega) (by omega)
    simpa using this
  unfold F_ref07_Same F_ref07_Same_j2
  by_cases hl : s1.length = s2.length
  · rw [if_neg (by simp [hl])]
    by_cases hd : d1 = d2
    · rw [if_neg (by simp [hd]), hj hl]
      unfold F_ref07_Same_j3 F_ref07_Same_j4
      by_cases hs : s1 = s2
      · subst hs; subst hd
        simp only [if_true]
        simp only [ApiCommand.mk.injEq]
        by_cases h1 : t1 = t2 <;> by_cases h2 : k1 = k2 <;> by_cases h3 : m1 = m2 <;> by_cases h4 : i1 = i2 <;> by_cases h5 : o1 = o2 <;> by_cases h6 : l1 = l2 <;> simp [h1, h2, h3, h4, h5, h6] <;> rfl
      · rw [if_neg hs]
        simp [hs]
    · rw [if_pos (by simp [hd])]
      simp [hd]
  · rw [if_pos (by simp; omega)]
    have : s1 ≠ s2 := fun e => hl (by rw [e])
    simp [this]
theorem prog_same {N : Nat} (a b : ApiCommand) (hm : a.Set.length ≤ maxLen) (hN : a.Set.length < N) : F_command_Same N a b = some (decide (a = b)) := by
  obtain ⟨t1, k1, m1, s1, i1, o1, l1, f1, d1⟩ := a
  obtain ⟨t2, k2, m2, s2, i2, o2, l2, f2, d2⟩ := b
  simp only at hm hN
  unfold F_command_Same F_command_Same_j1
  simp only [equal_says s1 s2 hm hN, Option.bind_some, ApiCommand.mk.injEq]
  by_cases h1 : t1 = t2 <;> by_cases h2 : k1 = k2 <;> by_cases h3 : m1 = m2 <;> by_cases hs : s1 = s2 <;> by_cases h4 : i1 = i2 <;> by_cases h5 : o1 = o2 <;> by_cases h6 : l1 = l2 <;> by_cases h7 : f1 = f2 <;> simp [h1, h2, h3, hs, h4, h5, h6, h7, beq_dec]
theorem few_says (N : Nat) (a : ApiCommand) : ∃ b, F_ref07_Few N a = some b := by
  unfold F_ref07_Few F_ref07_Few_j1
  repeat' split
  all_goals exact ⟨_, rfl⟩
/-- THE LAW. -/
theorem same_true (a b : ApiCommand) (ha : a.Set.length ≤ maxLen) : ∃ N, F_law07_CommandSame N a b = some true := by
  refine ⟨a.Set.length + 1, ?_⟩
  unfold F_law07_CommandSame F_law07_CommandSame_j2 F_law07_CommandSame_j1 F_law07_CommandSame_j3
  obtain ⟨f1, h1⟩ := few_says (a.Set.length + 1) a
  obtain ⟨f2, h2⟩ := few_says (a.Set.length + 1) b
  have e1 := prog_same (N := a.Set.length + 1) a b ha (by omega)
  have e2 := ref_same (N := a.Set.length + 1) a b ha (by omega)
  have e3 := prog_same (N := a.Set.length + 1) a a ha (by omega)
  simp only [h1, h2, e1, e2, e3, Option.bind_some, F_law07_alive]
  cases f1 <;> cases f2 <;> simp
end Go.Proofs.YtflgkiddnmpfbaaGreatDoor
namespace Go.Proofs.YtflgkiddnmpfbaaGreatDoor
open Go Go.Gx Go.Mx
theorem law (a b : ApiCommand) (ha : wfApiCommand a) (hb : wfApiCommand b) : ∃ N, F_law07_CommandSame N a b = some true := same_true a b ha.2.2.2.1.1
end Go.Proofs.YtflgkiddnmpfbaaGreatDoor
