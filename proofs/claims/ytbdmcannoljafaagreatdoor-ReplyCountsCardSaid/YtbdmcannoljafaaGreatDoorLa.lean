/- ReplyCounts, the plain law: the numbers of the kinds add up. -/
import Derived.Test.YtbdmcannoljafaaGreatDoorFa
set_option linter.unusedVariables false
namespace Go.Proofs.YtbdmcannoljafaaGreatDoor
open Go Go.Gx Go.Mx
theorem wr {x : Int} (h : -9223372036854775808 ≤ x) (h' : x ≤ 9223372036854775807) : IntKind.wrap .i64 x = x := by
  simp [IntKind.wrap, IntKind.bits, IntKind.signed]; omega
theorem sget_nat {α : Type} {l : List α} {i : Nat} (h : i < l.length) : sget l (i : Int) = some l[i] := by
  unfold sget; rw [if_pos (by omega)]; simp [h]
theorem drop_one {α : Type} {l : List α} {i : Nat} (h : i < l.length) : l.drop i = l[i] :: l.drop (i + 1) := List.drop_eq_getElem_cons h

theorem few_says (N : Nat) (l : List ApiResponse) (hl : l.length ≤ 9223372036854775807) : ∀ (m i : Nat), i ≤ l.length → l.length < m + i → ∃ b, F6_l1 N l m (i : Int) = some b ∧ (b = true → l.length ≤ 60)
  | 0, i, h, h' => by omega
  | m + 1, i, h, h' => by
    unfold F6_l1
    by_cases hi : i < l.length
    · rw [if_pos (by rw [decide_eq_true_eq]; omega)]
      simp only [sget_nat hi, Option.bind_some]
      have step : ∀ b, ∃ c, F6_j3 N l (i : Int) (F6_l1 N l m) b = some c ∧ (c = true → l.length ≤ 60) := by
        intro b
        unfold F6_j3 F6_j2
        cases b with
        | true => exact ⟨false, rfl, fun e => by cases e⟩
        | false =>
          obtain ⟨c, h1, h2⟩ := few_says N l hl m (i + 1) (by omega) (by omega)
          refine ⟨c, ?_, h2⟩
          rw [if_neg (by simp), wr (by omega) (by omega)]
          exact h1
      split
      · exact step true
      · split
        · exact step true
        · exact step _
    · rw [if_neg (by rw [decide_eq_true_eq]; omega)]
      exact ⟨_, rfl, fun e => by have := of_decide_eq_true e; omega⟩

def cnt (k : Int) (l : List ApiResponse) : Nat := (l.filter fun r => r.Kind == k).length
theorem cnt_le (k : Int) (l : List ApiResponse) : cnt k l ≤ l.length := List.length_filter_le _ _
theorem count_says (N : Nat) (k : Int) (l : List ApiResponse) (hl : l.length ≤ 60) : ∀ (m i x : Nat), i ≤ l.length → l.length < m + i → x ≤ i → F8_l1 N k l m ((x : Int), (l.length : Int), (i : Int)) = some ((x : Int) + cnt k (l.drop i))
  | 0, i, x, h, h', _ => by omega
  | m + 1, i, x, h, h', hx => by
    unfold F8_l1
    by_cases hi : i < l.length
    · skip
      rw [if_pos (by rw [decide_eq_true_eq]; omega)]
      simp only [sget_nat hi, Option.bind_some, F8_j2]
      rw [drop_one hi, wr (x := (i : Int) + 1) (by omega) (by omega)]
      split
      · rename_i hk
        rw [wr (by omega) (by omega)]
        have := count_says N k l hl m (i + 1) (x + 1) (by omega) (by omega) (by omega)
        simp only [Int.natCast_add, Int.cast_ofNat_Int] at this
        rw [this]
        simp only [cnt, List.filter_cons, hk, if_true, List.length_cons]
        simp only [Int.natCast_add, Int.cast_ofNat_Int, Option.some.injEq]; omega
      · rename_i hk
        have := count_says N k l hl m (i + 1) x (by omega) (by omega) (by omega)
        simp only [Int.natCast_add, Int.cast_ofNat_Int] at this
        rw [this]
        simp only [cnt, List.filter_cons, hk, if_false]
        rfl
    · skip
      rw [if_neg (by rw [decide_eq_true_eq]; omega), F8_j1, List.drop_of_length_le (by omega)]
      simp [cnt]
/-- How many have a kind from k on, up to 10. -/
def from_ (k : Int) (l : List ApiResponse) : Nat := (l.filter fun r => decide (k ≤ r.Kind) && decide (r.Kind ≤ 10)).length
theorem from_le (k : Int) (l : List ApiResponse) : from_ k l ≤ l.length := List.length_filter_le _ _
theorem from_step (k : Int) (hk : k ≤ 10) : ∀ l, from_ k l = cnt k l + from_ (k + 1) l
  | [] => rfl
  | r :: l => by
    have ih := from_step k hk l
    unfold from_ cnt at *
    simp only [List.filter_cons]
    by_cases h1 : r.Kind = k
    · have e1 : (decide (k ≤ r.Kind) && decide (r.Kind ≤ 10)) = true := by simp; omega
      have e2 : (r.Kind == k) = true := by simpa using h1
      have e3 : (decide (k + 1 ≤ r.Kind) && decide (r.Kind ≤ 10)) = false := by simp; omega
      simp only [e1, e2, e3, if_true, List.length_cons]; simp; omega
    · have e2 : (r.Kind == k) = false := by simpa using h1
      have e1 : (decide (k ≤ r.Kind) && decide (r.Kind ≤ 10)) = (decide (k + 1 ≤ r.Kind) && decide (r.Kind ≤ 10)) := by
        rw [Bool.eq_iff_iff]; simp; omega
      simp only [e1, e2]
      split <;> simp <;> omega
theorem valid_says (N : Nat) (x13 : Int) (l : List ApiResponse) (hl : l.length ≤ 60) : ∀ (m i x : Nat), i ≤ l.length → l.length < m + i → x ≤ i → F3_l2 N x13 l m ((x : Int), (l.length : Int), (i : Int)) = F3_j2 N x13 ((x : Int) + from_ 1 (l.drop i))
  | 0, i, x, h, h', _ => by omega
  | m + 1, i, x, h, h', hx => by
    unfold F3_l2
    by_cases hi : i < l.length
    · skip
      rw [if_pos (by rw [decide_eq_true_eq]; omega)]
      simp only [sget_nat hi, Option.bind_some, F3_j4, F3_j3]
      rw [drop_one hi, wr (x := (i : Int) + 1) (by omega) (by omega), wr (x := (x : Int) + 1) (by omega) (by omega)]
      have a1 := valid_says N x13 l hl m (i + 1) (x + 1) (by omega) (by omega) (by omega)
      have a0 := valid_says N x13 l hl m (i + 1) x (by omega) (by omega) (by omega)
      simp only [Int.natCast_add, Int.cast_ofNat_Int] at a1 a0
      by_cases h1 : (1 : Int) ≤ l[i].Kind
      · by_cases h2 : l[i].Kind ≤ 10
        · simp only [h1, h2, decide_true, if_true, a1, from_, List.filter_cons, Bool.and_self, List.length_cons, Int.natCast_add, Int.cast_ofNat_Int]
          congr 1; omega
        · simp only [h1, h2, decide_true, decide_false, if_true, a0, from_, List.filter_cons, Bool.and_false]
          simp
      · simp only [h1, decide_false, a0, from_, List.filter_cons, Bool.false_and]
        simp
    · skip
      rw [if_neg (by rw [decide_eq_true_eq]; omega), List.drop_of_length_le (by omega)]
      simp [from_]
theorem sum_says (N : Nat) (l : List ApiResponse) (hl : l.length ≤ 60) (hN : 60 < N) : ∀ (d m : Nat) (k : Int) (x : Nat), d = (11 - k).toNat → 1 ≤ k → k ≤ 11 → d < m → x + from_ k l ≤ 60 → F3_l1 N l m ((x : Int), k) = F3_j1 N l ((x : Int) + from_ k l)
  | d, 0, k, x, _, _, _, h, _ => by omega
  | 0, m + 1, k, x, h1, h2, h3, h4, h5 => by
    unfold F3_l1
    rw [if_neg (by rw [decide_eq_true_eq]; omega)]
    have : from_ k l = 0 := by
      unfold from_
      rw [List.length_eq_zero_iff, List.filter_eq_nil_iff]
      intro r _
      simp; omega
    rw [this]; simp
  | d + 1, m + 1, k, x, h1, h2, h3, h4, h5 => by
    unfold F3_l1
    rw [if_pos (by rw [decide_eq_true_eq]; omega)]
    have hc := count_says N k l hl N 0 0 (by omega) (by omega) (by omega)
    simp only [List.drop_zero] at hc
    have hF : F8 N k l = some (cnt k l : Int) := by
      unfold F8
      simpa using hc
    have hs := from_step k (by omega) l
    simp only [hF, Option.bind_some]
    rw [wr (by omega) (by omega), wr (by omega) (by omega)]
    have := sum_says N l hl hN d m (k + 1) (x + cnt k l) (by omega) (by omega) (by omega) (by omega) (by omega)
    simp only [Int.natCast_add] at this
    rw [this, hs]
    congr 1
    simp only [Int.natCast_add]; omega
/-- THE LAW. -/
theorem counts_true (l : List ApiResponse) (hl : l.length ≤ 9223372036854775807) : ∃ N, F3 N l = some true := by
  refine ⟨l.length + 61, ?_⟩
  unfold F3
  obtain ⟨b, h1, h2⟩ := few_says (l.length + 61) l hl (l.length + 61) 0 (by omega) (by omega)
  have hF : F6 (l.length + 61) l = some b := h1
  rw [hF]
  simp only [Option.bind_some]
  cases b with
  | false => simp [F7]
  | true =>
    have h60 := h2 rfl
    have hs := sum_says (l.length + 61) l h60 (by omega) 10 (l.length + 61) 1 0 (by decide) (by omega) (by omega) (by omega) (by have := from_le 1 l; omega)
    simp only [Bool.not_true, Bool.false_eq_true, if_false]
    rw [show ((0 : Int), (1 : Int)) = (((0 : Nat) : Int), (1 : Int)) from rfl, hs]
    unfold F3_j1
    have hv := valid_says (l.length + 61) (((0 : Nat) : Int) + from_ 1 l) l h60 (l.length + 61) 0 0 (by omega) (by omega) (by omega)
    simp only [List.drop_zero] at hv
    rw [show ((0 : Int), (l.length : Int), (0 : Int)) = (((0 : Nat) : Int), (l.length : Int), ((0 : Nat) : Int)) from rfl, hv]
    simp [F3_j2, F3_j5, F7]
end Go.Proofs.YtbdmcannoljafaaGreatDoor
