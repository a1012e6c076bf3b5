/- ClientRetags, the plain law: Retag numbers the tags and changes nothing else. -/
import Derived.Test.YtnoodkgfjdajgaaGreatDoorCrFa
import Derived.Test.YtnoodkgfjdajgaaGreatDoorBase4
set_option linter.unusedVariables false
set_option linter.unusedSimpArgs false
namespace Go.Proofs.YtnoodkgfjdajgaaGreatDoor
open Go Go.Gx Go.Mx Go.Sx
abbrev Cmd := El uS1
theorem set_from (N : Nat) (a : List UInt8) (b : Int) (c : List UInt8) (s : List (Int × Int)) (d e : Int) (f : Bool) (g : UInt8) (h : List UInt8) (hs : s.length ≤ 60) : ∀ (m i : Nat), i ≤ s.length → s.length < m + i →
    F_ref07_Same_l38 N m (i : Int) a b c s d e f g h a b c s d e f g h = some (.inr (a, b, c, s, d, e, f, g, h, a, b, c, s, d, e, f, g, h))
  | 0, i, h, h' => by omega
  | m + 1, i, h, h' => by
    unfold F_ref07_Same_l38 F_ref07_Same_l38_t
    by_cases hi : i < s.length
    · simp only [lt_t hi, cond_true, Int.toNat_natCast, inb_t hi, beq_self_eq_true, Bool.and_self, Bool.not_true, cond_false]
      rw [wri (by omega) (by omega), show ((i : Int) + 1) = ((i + 1 : Nat) : Int) by omega]
      exact set_from N a b c s d e f g _ hs m (i + 1) (by omega) (by omega)
    · rw [lt_f hi]; rfl
theorem same_says {N : Nat} (c : Cmd) (hs : c.2.2.2.1.length ≤ 60) (hN : 60 < N) : F_ref07_Same N c c = some (true, ()) := by
  unfold F_ref07_Same
  have := set_from N c.1 c.2.1 c.2.2.1 c.2.2.2.1 c.2.2.2.2.1 c.2.2.2.2.2.1 c.2.2.2.2.2.2.1 c.2.2.2.2.2.2.2.1 c.2.2.2.2.2.2.2.2 hs N 0 (by omega) (by omega)
  rw [show ((0 : Nat) : Int) = 0 from rfl] at this
  rw [this]
  simp only [bne_self_eq_false, cond_false, Option.bind_some, sumCase, beq_self_eq_true, cond_true]
def OkC (c : Cmd) : Prop := c.2.2.2.1.length ≤ 60 ∧ c.2.2.2.2.2.2.2.2.length ≤ 500
theorem few7_says (N : Nat) (c : Cmd) : F_ref07_Few N c = some (false, ()) ∨ (F_ref07_Few N c = some (true, ()) ∧ OkC c) := by
  unfold F_ref07_Few
  by_cases h1 : decide (((c.1.length : Nat) : Int) ≤ 100) = true
  · by_cases h2 : decide (((c.2.2.1.length : Nat) : Int) ≤ 300) = true
    · by_cases h3 : decide (((c.2.2.2.1.length : Nat) : Int) ≤ 60) = true
      · by_cases h4 : decide (((c.2.2.2.2.2.2.2.2.length : Nat) : Int) ≤ 500) = true
        · right
          simp only [h1, h2, h3, h4, cond_true]
          have a3 := of_decide_eq_true h3; have a4 := of_decide_eq_true h4
          exact ⟨trivial, by omega, by omega⟩
        · left; simp only [Bool.not_eq_true] at h4; simp only [h1, h2, h3, h4, cond_true]
      · left; simp only [Bool.not_eq_true] at h3; simp only [h1, h2, h3, cond_true, cond_false]
    · left; simp only [Bool.not_eq_true] at h2; simp only [h1, h2, cond_true, cond_false]
  · left; simp only [Bool.not_eq_true] at h1; simp only [h1, cond_false]
theorem few_from (N : Nat) (l : List Cmd) (hl : l.length ≤ 9223372036854775807) : ∀ (m i : Nat), i ≤ l.length → l.length < m + i →
    F_ref08_Few_l6 N m l (i : Int) = some (.inl ()) ∨ (F_ref08_Few_l6 N m l (i : Int) = some (.inr l) ∧ ∀ c ∈ l.drop i, OkC c)
  | 0, i, h, h' => by omega
  | m + 1, i, h, h' => by
    unfold F_ref08_Few_l6 F_ref08_Few_l6_t
    by_cases hi : i < l.length
    · simp only [lt_t hi, cond_true, Int.toNat_natCast, nth_t hi, inb_t hi]
      rcases few7_says N l[i] with h1 | ⟨h1, h2⟩
      · left; rw [h1]; rfl
      · rw [h1]
        simp only [Option.bind_some, Bool.not_true, cond_false]
        rw [wri (by omega) (by omega), show ((i : Int) + 1) = ((i + 1 : Nat) : Int) by omega]
        rcases few_from N l hl m (i + 1) (by omega) (by omega) with h4 | ⟨h4, h5⟩
        · exact .inl h4
        · refine .inr ⟨h4, fun r hr => ?_⟩
          rw [drop_one hi] at hr
          rcases List.mem_cons.1 hr with rfl | hr
          · exact h2
          · exact h5 r hr
    · right
      rw [lt_f hi, List.drop_of_length_le (by omega)]
      exact ⟨rfl, by simp⟩
theorem few_says {N : Nat} {l : List Cmd} (hl : l.length ≤ 9223372036854775807) (hN : l.length < N) : F_ref08_Few N l = some (false, ()) ∨ (F_ref08_Few N l = some (true, ()) ∧ l.length ≤ 30 ∧ ∀ c ∈ l, OkC c) := by
  unfold F_ref08_Few
  rcases few_from N l hl N 0 (by omega) (by omega) with h | ⟨h, h2⟩
  · left
    rw [show ((0 : Nat) : Int) = 0 from rfl] at h
    rw [h]; rfl
  · rw [show ((0 : Nat) : Int) = 0 from rfl] at h
    rw [h]
    by_cases h60 : l.length ≤ 30
    · right
      refine ⟨?_, h60, by simpa using h2⟩
      show some (decide (((l.length : Nat) : Int) ≤ 30), ()) = _
      rw [decide_eq_true (by omega)]
    · left
      show some (decide (((l.length : Nat) : Int) ≤ 30), ()) = _
      rw [decide_eq_false (by omega)]
theorem samel_from {N : Nat} (hN : 60 < N) (l : List Cmd) (hl : l.length ≤ 30) (hc : ∀ c ∈ l, OkC c) : ∀ (m i : Nat), i ≤ l.length → l.length < m + i → F_ref08_Same_l8 N m l l (i : Int) = some (.inr ())
  | 0, i, h, h' => by omega
  | m + 1, i, h, h' => by
    unfold F_ref08_Same_l8 F_ref08_Same_l8_t
    by_cases hi : i < l.length
    · simp only [lt_t hi, cond_true, Int.toNat_natCast, nth_t hi, inb_t hi]
      rw [same_says l[i] (hc _ (List.getElem_mem hi)).1 hN]
      simp only [Option.bind_some, Bool.not_true, cond_false]
      rw [wri (by omega) (by omega), show ((i : Int) + 1) = ((i + 1 : Nat) : Int) by omega]
      exact samel_from hN l hl hc m (i + 1) (by omega) (by omega)
    · rw [lt_f hi]; rfl
theorem samel_says {N : Nat} (hN : 60 < N) {l : List Cmd} (hl : l.length ≤ 30) (hc : ∀ c ∈ l, OkC c) : F_ref08_Same N l l = some (true, ()) := by
  unfold F_ref08_Same
  have := samel_from hN l hl hc N 0 (by omega) (by omega)
  rw [show ((0 : Nat) : Int) = 0 from rfl] at this
  rw [this]
  simp [sumCase]
/-- A number in digits, as the law has them. -/
def dig (n : Int) : List UInt8 := [u8of (IntKind.wrap .i64 (48 + Int.tmod n 10))]
def digs (n : Int) : List UInt8 := cond (decide (10 ≤ n)) ([u8of (IntKind.wrap .i64 (48 + IntKind.wrap .i64 (Int.tdiv n 10)))] ++ dig n) (dig n)
theorem dec_says (N : Nat) (n : Nat) (h1 : 1 ≤ n) (h2 : n ≤ 30) : F_char_Decimal N (n : Int) = some (digs (n : Int), ()) := by
  have : n = 1 ∨ n = 2 ∨ n = 3 ∨ n = 4 ∨ n = 5 ∨ n = 6 ∨ n = 7 ∨ n = 8 ∨ n = 9 ∨ n = 10 ∨ n = 11 ∨ n = 12 ∨ n = 13 ∨ n = 14 ∨ n = 15 ∨ n = 16 ∨ n = 17 ∨ n = 18 ∨ n = 19 ∨ n = 20 ∨ n = 21 ∨ n = 22 ∨ n = 23 ∨ n = 24 ∨ n = 25 ∨ n = 26 ∨ n = 27 ∨ n = 28 ∨ n = 29 ∨ n = 30 := by omega
  rcases this with rfl | rfl | rfl | rfl | rfl | rfl | rfl | rfl | rfl | rfl | rfl | rfl | rfl | rfl | rfl | rfl | rfl | rfl | rfl | rfl | rfl | rfl | rfl | rfl | rfl | rfl | rfl | rfl | rfl | rfl <;> (refine Eq.trans (b := F_char_Decimal N _) rfl ?_; kernel_rfl)
theorem digs_len (n : Int) : (digs n).length ≤ 2 := by
  unfold digs dig
  cases decide (10 ≤ n) <;> simp
def tagd (p : List UInt8) : Nat → List Cmd → List Cmd
  | _, [] => []
  | i, c :: l => (p ++ digs ((i + 1 : Nat) : Int), c.2) :: tagd p (i + 1) l
theorem tagd_length (p : List UInt8) : ∀ (i : Nat) (l : List Cmd), (tagd p i l).length = l.length
  | _, [] => rfl
  | i, c :: l => by simp [tagd, tagd_length p (i + 1) l]
theorem tagd_get (p : List UInt8) : ∀ (k : Nat) (l : List Cmd) (i : Nat) (h : i < l.length), (tagd p k l)[i]'(by rw [tagd_length]; exact h) = (p ++ digs ((k + i + 1 : Nat) : Int), l[i].2)
  | k, [], i, h => by simp at h
  | k, c :: l, 0, h => rfl
  | k, c :: l, i + 1, h => by
    have := tagd_get p (k + 1) l i (by simpa using h)
    simp only [tagd, List.getElem_cons_succ]
    rw [this, show k + 1 + i + 1 = k + (i + 1) + 1 by omega]
theorem clone8 (N : Nat) {b : List UInt8} (h : b.length ≤ 500) : F_slices_Clone_byte_byte N b = some (b, ()) := by
  unfold F_slices_Clone_byte_byte
  rw [show Nat.blt (0 + b.length) lim39 = true by rw [Nat.blt_eq]; unfold lim39; omega]
  rfl
theorem cloneR (N : Nat) {b : List (Int × Int)} (h : b.length ≤ 60) : F_slices_Clone_api_Range_api_Range N b = some (b, ()) := by
  unfold F_slices_Clone_api_Range_api_Range
  rw [show Nat.blt (0 + b.length) lim39 = true by rw [Nat.blt_eq]; unfold lim39; omega]
  rfl
theorem wr32 {x : Int} (h : 0 ≤ x) (h' : x ≤ 4294967295) : IntKind.wrap .u32 x = x := by
  simp [IntKind.wrap, IntKind.bits, IntKind.signed]; omega
theorem retag_from (N : Nat) (p : List UInt8) (hp : p.length ≤ 100) (l : List Cmd) (hl : l.length ≤ 30) (hc : ∀ c ∈ l, OkC c) : ∀ (m i : Nat) (acc : List Cmd), i ≤ l.length → l.length < m + i → acc.length ≤ i →
    F_client_Retag_l29 N m p l (l.length : Int) (i : Int) acc = some (acc ++ tagd p i (l.drop i))
  | 0, i, acc, h, h', _ => by omega
  | m + 1, i, acc, h, h', ha => by
    unfold F_client_Retag_l29 F_client_Retag_l29_t
    by_cases hi : i < l.length
    · simp only [lt_t hi, cond_true, Int.toNat_natCast, nth_t hi, inb_t hi]
      rw [wri (by omega) (by omega), show ((i : Int) + 1) = ((i + 1 : Nat) : Int) by omega, wr32 (by omega) (by omega), dec_says N (i + 1) (by omega) (by omega)]
      simp only [Option.bind_some]
      have hd := digs_len ((i + 1 : Nat) : Int)
      obtain ⟨o1, o2⟩ := hc _ (List.getElem_mem hi)
      rw [decide_eq_true (by omega), cond_true, cloneR N o1]
      simp only [Option.bind_some]
      rw [clone8 N o2]
      simp only [Option.bind_some]
      rw [show Nat.blt (acc.length + 1) lim39 = true by rw [Nat.blt_eq]; unfold lim39; omega, cond_true]
      rw [retag_from N p hp l hl hc m (i + 1) _ (by omega) (by omega) (by simp; omega), drop_one hi, List.append_assoc]
      rfl
    · rw [lt_f hi, List.drop_of_length_le (by omega)]
      simp [tagd]
theorem law_from {N : Nat} (hN : 60 < N) (p : List UInt8) (hp : p.length ≤ 100) (l : List Cmd) (hl : l.length ≤ 30) (hc : ∀ c ∈ l, OkC c) : ∀ (m i : Nat), i ≤ l.length → l.length < m + i →
    F_law08_ClientRetags_l18 N m p l (tagd p 0 l) (l.length : Int) (i : Int) = some (.inr ())
  | 0, i, h, h' => by omega
  | m + 1, i, h, h' => by
    unfold F_law08_ClientRetags_l18 F_law08_ClientRetags_l18_t
    by_cases hi : i < l.length
    · have hit : i < (tagd p 0 l).length := by rw [tagd_length]; exact hi
      simp only [lt_t hi, cond_true, Int.toNat_natCast, nth_t hi, inb_t hi, nth_t hit, inb_t hit]
      rw [tagd_get p 0 l i hi, Nat.zero_add, wri (by omega) (by omega), show ((i : Int) + 1) = ((i + 1 : Nat) : Int) by omega]
      have ih := law_from hN p hp l hl hc m (i + 1) (by omega) (by omega)
      have hs := same_says (N := N) (p ++ digs ((i + 1 : Nat) : Int), l[i].2) (hc _ (List.getElem_mem hi)).1 hN
      cases h10 : decide ((10 : Int) ≤ ((i + 1 : Nat) : Int)) with
      | true =>
        simp only [cond_true]
        have e : digs ((i + 1 : Nat) : Int) = [u8of (IntKind.wrap .i64 (48 + IntKind.wrap .i64 (Int.tdiv ((i + 1 : Nat) : Int) 10)))] ++ dig ((i + 1 : Nat) : Int) := by unfold digs; rw [h10]; rfl
        rw [e, ← List.append_assoc] at hs
        rw [decide_eq_true (by simp; omega), decide_eq_true (by simp; omega), cond_true, cond_true, e, ← List.append_assoc]
        unfold dig at hs ⊢
        rw [hs]
        simp only [Option.bind_some, Bool.not_true, cond_false]
        exact ih
      | false =>
        simp only [cond_false]
        have e : digs ((i + 1 : Nat) : Int) = dig ((i + 1 : Nat) : Int) := by unfold digs; rw [h10]; rfl
        rw [e] at hs
        rw [decide_eq_true (by simp; omega), cond_true, e]
        unfold dig at hs ⊢
        rw [hs]
        simp only [Option.bind_some, Bool.not_true, cond_false]
        exact ih
    · rw [lt_f hi]; rfl
/-- THE LAW. -/
theorem law (x : El (tupU [.str, .sl uS1])) (hw : Wf (tupU [.str, .sl uS1]) x) : ∃ N, F_law08_ClientRetags N x.1 x.2.1 = some (true, ()) := by
  obtain ⟨p, l, ⟨⟩⟩ := x
  have hl : l.length ≤ 9223372036854775807 := hw.2.1.1
  refine ⟨l.length + 61, ?_⟩
  show F_law08_ClientRetags (l.length + 61) p l = _
  unfold F_law08_ClientRetags
  rcases few_says (N := l.length + 61) hl (by omega) with h | ⟨h, h30, hc⟩
  · rw [h]; rfl
  · rw [h]
    simp only [Option.bind_some, Bool.not_true, cond_false]
    by_cases ht : decide ((100 : Int) < ((p.length : Nat) : Int)) = true
    · simp only [ht, cond_true]
    · simp only [Bool.not_eq_true] at ht
      have hp := of_decide_eq_false ht
      simp only [ht, cond_false, List.nil_append]
      rw [show Nat.blt (0 + l.length) lim39 = true by rw [Nat.blt_eq]; unfold lim39; omega, cond_true]
      have hr := retag_from (l.length + 61) p (by omega) l h30 hc (l.length + 61) 0 [] (by omega) (by omega) (by simp)
      have z0 : (((0 : Nat) : Int)) = (0 : Int) := rfl
      rw [z0, List.drop_zero, List.nil_append] at hr
      rw [show F_client_Retag (l.length + 61) p l = some (tagd p 0 l, ()) by unfold F_client_Retag; rw [hr]; rfl]
      simp only [Option.bind_some]
      rw [tagd_length, bne_self_eq_false, cond_false, samel_says (by omega) h30 hc]
      simp only [Option.bind_some, Bool.not_true, cond_false]
      have hf := law_from (N := l.length + 61) (by omega) p (by omega) l h30 hc (l.length + 61) 0 (by omega) (by omega)
      rw [z0] at hf
      rw [hf]; rfl
end Go.Proofs.YtnoodkgfjdajgaaGreatDoor
