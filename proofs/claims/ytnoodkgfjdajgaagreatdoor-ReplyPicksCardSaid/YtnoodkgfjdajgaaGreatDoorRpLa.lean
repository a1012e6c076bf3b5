/- ReplyPicks, the plain law: what Tagged, Until and Count come to. -/
import Derived.Test.YtnoodkgfjdajgaaGreatDoorRpFa
import Derived.Test.YtnoodkgfjdajgaaGreatDoorBase4
set_option linter.unusedVariables false
set_option linter.unusedSimpArgs false
namespace Go.Proofs.YtnoodkgfjdajgaaGreatDoor
open Go Go.Gx Go.Mx Go.Sx
abbrev Rsp := El uS1
abbrev body (r : Rsp) : List UInt8 := r.2.2.2.2.2.2.2.2.2

theorem few_from (N : Nat) (l : List Rsp) (hl : l.length ≤ 9223372036854775807) : ∀ (m i : Nat), i ≤ l.length → l.length < m + i →
    F_ref09_Few_l4 N m l (i : Int) = some (.inl ()) ∨ (F_ref09_Few_l4 N m l (i : Int) = some (.inr l) ∧ ∀ r ∈ l.drop i, (body r).length ≤ 500)
  | 0, i, h, h' => by omega
  | m + 1, i, h, h' => by
    unfold F_ref09_Few_l4 F_ref09_Few_l4_t
    by_cases hi : i < l.length
    · have ih := few_from N l hl m (i + 1) (by omega) (by omega)
      simp only [lt_t hi, cond_true, Int.toNat_natCast, nth_t hi, inb_t hi]
      by_cases h1 : decide ((100 : Int) < ((l[i].2.2.1.length : Nat) : Int)) = true
      · left; simp only [h1, cond_true]
      · simp only [Bool.not_eq_true] at h1
        simp only [h1, cond_false]
        by_cases h2 : decide ((300 : Int) < ((l[i].2.2.2.2.1.length : Nat) : Int)) = true
        · left; simp only [h2, cond_true]
        · simp only [Bool.not_eq_true] at h2
          simp only [h2, cond_false]
          by_cases h3 : decide ((500 : Int) < ((l[i].2.2.2.2.2.2.2.2.2.length : Nat) : Int)) = true
          · left; simp only [h3, cond_true]
          · simp only [Bool.not_eq_true] at h3
            simp only [h3, cond_false]
            rw [wri (by omega) (by omega), show ((i : Int) + 1) = ((i + 1 : Nat) : Int) by omega]
            rcases ih with h4 | ⟨h4, h5⟩
            · exact .inl h4
            · refine .inr ⟨h4, fun r hr => ?_⟩
              rw [drop_one hi] at hr
              rcases List.mem_cons.1 hr with rfl | hr
              · have := of_decide_eq_false h3; show (l[i].2.2.2.2.2.2.2.2.2).length ≤ 500; omega
              · exact h5 r hr
    · right
      rw [lt_f hi, List.drop_of_length_le (by omega)]
      exact ⟨rfl, by simp⟩
theorem few_says {N : Nat} {l : List Rsp} (hl : l.length ≤ 9223372036854775807) (hN : l.length < N) : F_ref09_Few N l = some (false, ()) ∨ (F_ref09_Few N l = some (true, ()) ∧ l.length ≤ 60 ∧ ∀ r ∈ l, (body r).length ≤ 500) := by
  unfold F_ref09_Few
  rcases few_from N l hl N 0 (by omega) (by omega) with h | ⟨h, h2⟩
  · left
    rw [show ((0 : Nat) : Int) = 0 from rfl] at h
    rw [h]; rfl
  · rw [show ((0 : Nat) : Int) = 0 from rfl] at h
    rw [h]
    by_cases h60 : l.length ≤ 60
    · right
      refine ⟨?_, h60, by simpa using h2⟩
      show some (decide (((l.length : Nat) : Int) ≤ 60), ()) = _
      rw [decide_eq_true (by omega)]
    · left
      show some (decide (((l.length : Nat) : Int) ≤ 60), ()) = _
      rw [decide_eq_false (by omega)]
theorem clone_says (N : Nat) {b : List UInt8} (h : b.length ≤ 500) : F_slices_Clone_byte_byte N b = some (b, ()) := by
  unfold F_slices_Clone_byte_byte
  rw [show Nat.blt (0 + b.length) lim39 = true by rw [Nat.blt_eq]; unfold lim39; omega]
  rfl
theorem own_from (N : Nat) (l : List Rsp) (hl : l.length ≤ 60) (hb : ∀ r ∈ l, (body r).length ≤ 500) : ∀ (m i : Nat) (acc : List Rsp), i ≤ l.length → l.length < m + i → acc.length ≤ i →
    F_reply_own_l17 N m l (l.length : Int) (i : Int) acc = some (acc ++ l.drop i)
  | 0, i, acc, h, h', _ => by omega
  | m + 1, i, acc, h, h', ha => by
    unfold F_reply_own_l17 F_reply_own_l17_t
    by_cases hi : i < l.length
    · simp only [lt_t hi, cond_true, Int.toNat_natCast, nth_t hi, inb_t hi]
      rw [clone_says N (hb _ (List.getElem_mem hi))]
      simp only [Option.bind_some]
      rw [show Nat.blt (acc.length + 1) lim39 = true by rw [Nat.blt_eq]; unfold lim39; omega, cond_true, wri (by omega) (by omega), show ((i : Int) + 1) = ((i + 1 : Nat) : Int) by omega]
      rw [own_from N l hl hb m (i + 1) _ (by omega) (by omega) (by simp; omega), drop_one hi, List.append_assoc]
      rfl
    · rw [lt_f hi, List.drop_of_length_le (by omega)]
      simp
theorem own_says {N : Nat} {l : List Rsp} (hl : l.length ≤ 60) (hb : ∀ r ∈ l, (body r).length ≤ 500) (hN : l.length < N) : F_reply_own N l = some (l, ()) := by
  unfold F_reply_own
  have := own_from N l hl hb N 0 [] (by omega) (by omega) (by simp)
  rw [show ((0 : Nat) : Int) = 0 from rfl] at this
  rw [this]; rfl
/-- A tagged response with the tag. -/
def pk (tag : List UInt8) (r : Rsp) : Bool := r.1 == (9 : Int) && r.2.2.1 == tag
theorem idx_from (N : Nat) (l : List Rsp) (tag : List UInt8) (hl : l.length ≤ 60) : ∀ (m i : Nat), i ≤ l.length → l.length < m + i →
    F_law10_ReplyPicks_l13 N m l (l.length : Int) (i : Int) tag = match (l.drop i).findIdx? (pk tag) with | some j => some (.inl (((i + j : Nat) : Int), tag)) | none => some (.inr tag)
  | 0, i, h, h' => by omega
  | m + 1, i, h, h' => by
    unfold F_law10_ReplyPicks_l13 F_law10_ReplyPicks_l13_t
    by_cases hi : i < l.length
    · simp only [lt_t hi, cond_true, Int.toNat_natCast, nth_t hi, inb_t hi]
      have ih := idx_from N l tag hl m (i + 1) (by omega) (by omega)
      rw [wri (by omega) (by omega), show ((i : Int) + 1) = ((i + 1 : Nat) : Int) by omega, ih, drop_one hi, List.findIdx?_cons]
      have e : pk tag l[i] = (l[i].1 == (9 : Int) && l[i].2.2.1 == tag) := rfl
      cases h1 : (l[i].1 == (9 : Int)) <;> cases h2 : (l[i].2.2.1 == tag) <;> rw [h1, h2] at e <;> simp only [Bool.and_self, Bool.and_true, Bool.and_false, Bool.false_and] at e <;> rw [e] <;> simp only [cond_true, cond_false]
      · cases (l.drop (i + 1)).findIdx? (pk tag) <;> simp [Nat.add_comm, Nat.add_left_comm]
      · cases (l.drop (i + 1)).findIdx? (pk tag) <;> simp [Nat.add_comm, Nat.add_left_comm]
      · cases (l.drop (i + 1)).findIdx? (pk tag) <;> simp [Nat.add_comm, Nat.add_left_comm]
      · simp
    · rw [lt_f hi, List.drop_of_length_le (by omega)]
      rfl
theorem idx2 (N : Nat) : ∀ m l n i tag, F_reply_Until_l10 N m l n i tag = F_law10_ReplyPicks_l13 N m l n i tag
  | 0, l, n, i, tag => rfl
  | m + 1, l, n, i, tag => by
    unfold F_reply_Until_l10 F_law10_ReplyPicks_l13 F_reply_Until_l10_t F_law10_ReplyPicks_l13_t
    rw [idx2 N m]
theorem until_says {N : Nat} {l : List Rsp} (tag : List UInt8) (hl : l.length ≤ 60) (hb : ∀ r ∈ l, (body r).length ≤ 500) (hN : l.length < N) :
    F_reply_Until N tag l = match l.findIdx? (pk tag) with | some j => some (l.take j, l.drop (j + 1), true, ()) | none => some (l, [], false, ()) := by
  unfold F_reply_Until
  rw [idx2]
  have := idx_from N l tag hl N 0 (by omega) (by omega)
  rw [show ((0 : Nat) : Int) = 0 from rfl, List.drop_zero] at this
  rw [this]
  cases hf : l.findIdx? (pk tag) with
  | none =>
    simp only [Option.bind_some, sumCase]
    rw [own_says hl hb hN]; rfl
  | some j =>
    have hj : j < l.length := by
      obtain ⟨h, _⟩ := List.findIdx?_eq_some_iff_getElem.1 hf; exact h
    simp only [Option.bind_some, sumCase, Nat.zero_add]
    have b2 := bnds_t (a := j + 1) (b := l.length) (n := l.length) (by omega) (by omega)
    have b1 := bnds_t (a := 0) (b := j) (n := l.length) (by omega) (by omega)
    have z0 : (((0 : Nat) : Int)) = (0 : Int) := rfl
    rw [z0] at b1
    rw [decide_eq_false (by omega), cond_false, wri (by omega) (by omega), show ((j : Int) + 1) = ((j + 1 : Nat) : Int) by omega, b1, b2]
    simp only [Bool.and_self, cond_true, Int.toNat_natCast, slice_take, slice_drop]
    rw [own_says (by simp; omega) (fun r hr => hb r (List.mem_of_mem_take hr)) (by simp; omega), own_says (by simp; omega) (fun r hr => hb r (List.mem_of_mem_drop hr)) (by simp; omega)]
    rfl
theorem count_from (N : Nat) (l : List Rsp) (hl : l.length ≤ 60) (k : Int) : ∀ (m i x : Nat), i ≤ l.length → l.length < m + i → x ≤ i →
    F_reply_Count_l9 N m k (x : Int) l (l.length : Int) (i : Int) = some (((x + ((l.drop i).filter fun r => r.1 == k).length : Nat) : Int))
  | 0, i, x, h, h', _ => by omega
  | m + 1, i, x, h, h', hx => by
    unfold F_reply_Count_l9 F_reply_Count_l9_t
    by_cases hi : i < l.length
    · simp only [lt_t hi, cond_true, Int.toNat_natCast, nth_t hi, inb_t hi]
      rw [wri (x := (i : Int) + 1) (by omega) (by omega), show ((i : Int) + 1) = ((i + 1 : Nat) : Int) by omega, wri (by omega) (by omega), show ((x : Int) + 1) = ((x + 1 : Nat) : Int) by omega, drop_one hi]
      rw [count_from N l hl k m (i + 1) (x + 1) (by omega) (by omega) (by omega), count_from N l hl k m (i + 1) x (by omega) (by omega) (by omega), List.filter_cons]
      cases h1 : (l[i].1 == k)
      · simp only [cond_false]; rfl
      · simp only [cond_true, if_true, List.length_cons]
        rw [show x + 1 + ((l.drop (i + 1)).filter fun r => r.1 == k).length = x + (((l.drop (i + 1)).filter fun r => r.1 == k).length + 1) by omega]
    · rw [lt_f hi, List.drop_of_length_le (by omega)]
      simp
/-- The law's own list. -/
theorem pick_from (N : Nat) (l : List Rsp) (hl : l.length ≤ 60) (a : List Rsp) (at_ : Int) (b c : List Rsp) (ok : Bool) : ∀ (m i x : Nat) (acc : List Rsp), i ≤ l.length → l.length < m + i → x ≤ i → acc.length ≤ i →
    F_law10_ReplyPicks_l53 N m a at_ b c ok (x : Int) l (l.length : Int) (i : Int) acc = some (a, at_, b, c, ok, ((x + ((l.drop i).filter fun r => r.1 == (9 : Int)).length : Nat) : Int), acc ++ (l.drop i).filter fun r => r.1 == (9 : Int))
  | 0, i, x, acc, h, h', _, _ => by omega
  | m + 1, i, x, acc, h, h', hx, ha => by
    unfold F_law10_ReplyPicks_l53 F_law10_ReplyPicks_l53_t
    by_cases hi : i < l.length
    · simp only [lt_t hi, cond_true, Int.toNat_natCast, nth_t hi, inb_t hi]
      rw [show Nat.blt (acc.length + 1) lim39 = true by rw [Nat.blt_eq]; unfold lim39; omega, cond_true]
      rw [wri (x := (i : Int) + 1) (by omega) (by omega), show ((i : Int) + 1) = ((i + 1 : Nat) : Int) by omega, wri (by omega) (by omega), show ((x : Int) + 1) = ((x + 1 : Nat) : Int) by omega, drop_one hi]
      rw [pick_from N l hl a at_ b c ok m (i + 1) (x + 1) _ (by omega) (by omega) (by omega) (by simp; omega), pick_from N l hl a at_ b c ok m (i + 1) x acc (by omega) (by omega) (by omega) (by omega), List.filter_cons]
      cases h1 : (l[i].1 == (9 : Int))
      · simp only [cond_false]; rfl
      · simp only [cond_true, if_true, List.length_cons]
        rw [show x + 1 + ((l.drop (i + 1)).filter fun r => r.1 == (9 : Int)).length = x + (((l.drop (i + 1)).filter fun r => r.1 == (9 : Int)).length + 1) by omega]
        simp
    · rw [lt_f hi, List.drop_of_length_le (by omega)]
      simp
theorem same_says (N : Nat) (r : Rsp) : F_ref09_Same N r r = some (true, ()) := by
  unfold F_ref09_Same
  simp only [beq_self_eq_true, cond_true]
theorem samel_from (N : Nat) (l : List Rsp) (hl : l.length ≤ 60) : ∀ (m i : Nat), i ≤ l.length → l.length < m + i → F_ref09_SameList_l8 N m l l (i : Int) = some (.inr ())
  | 0, i, h, h' => by omega
  | m + 1, i, h, h' => by
    unfold F_ref09_SameList_l8 F_ref09_SameList_l8_t
    by_cases hi : i < l.length
    · simp only [lt_t hi, cond_true, Int.toNat_natCast, nth_t hi, inb_t hi, same_says, Option.bind_some, Bool.not_true, cond_false]
      rw [wri (by omega) (by omega), show ((i : Int) + 1) = ((i + 1 : Nat) : Int) by omega]
      exact samel_from N l hl m (i + 1) (by omega) (by omega)
    · rw [lt_f hi]; rfl
theorem samel_says {N : Nat} {l : List Rsp} (hl : l.length ≤ 60) (hN : l.length < N) : F_ref09_SameList N l l = some (true, ()) := by
  unfold F_ref09_SameList
  have := samel_from N l hl N 0 (by omega) (by omega)
  rw [show ((0 : Nat) : Int) = 0 from rfl] at this
  rw [this]
  simp [sumCase]
/-! Tagged. -/
theorem own3 (N : Nat) : ∀ m l n i acc, F_reply_Tagged_l17 N m l n i acc = F_reply_own_l17 N m l n i acc
  | 0, _, _, _, _ => rfl
  | m + 1, l, n, i, acc => by
    unfold F_reply_Tagged_l17 F_reply_own_l17 F_reply_Tagged_l17_t F_reply_own_l17_t
    have : F_reply_Tagged_l17 N m = F_reply_own_l17 N m := by funext a b c d; exact own3 N m a b c d
    rw [this]
abbrev tg (r : Rsp) : Bool := r.1 == (9 : Int)
theorem untag_from (N : Nat) (l : List Rsp) (hl : l.length ≤ 60) : ∀ (m i : Nat), i ≤ l.length → l.length < m + i →
    (F_reply_Tagged_l25 N m (l.length : Int) (i : Int) l = some (.inr l) ∧ (l.drop i).filter tg = l.drop i) ∨ ∃ j, i ≤ j ∧ j < l.length ∧ F_reply_Tagged_l25 N m (l.length : Int) (i : Int) l = some (.inl ((j : Int), l)) ∧ (l.drop i).filter tg = (l.drop i).take (j - i) ++ (l.drop (j + 1)).filter tg
  | 0, i, h, h' => by omega
  | m + 1, i, h, h' => by
    unfold F_reply_Tagged_l25 F_reply_Tagged_l25_t
    by_cases hi : i < l.length
    · simp only [lt_t hi, cond_true, Int.toNat_natCast, nth_t hi, inb_t hi]
      rw [drop_one hi, List.filter_cons]
      cases h1 : (l[i].1 == (9 : Int))
      · right
        refine ⟨i, Nat.le_refl _, hi, ?_, ?_⟩
        · rw [show (l[i].1 != (9 : Int)) = true by rw [bne, h1]; rfl]; rfl
        · simp [tg, h1]
      · rw [show (l[i].1 != (9 : Int)) = false by rw [bne, h1]; rfl, cond_false, wri (by omega) (by omega), show ((i : Int) + 1) = ((i + 1 : Nat) : Int) by omega]
        rcases untag_from N l hl m (i + 1) (by omega) (by omega) with ⟨h2, h3⟩ | ⟨j, h2, h3, h4, h5⟩
        · left; exact ⟨h2, by simp only [tg, h1, if_true]; rw [h3]⟩
        · right
          refine ⟨j, by omega, h3, h4, ?_⟩
          simp only [tg, h1, if_true]
          rw [h5, show j - i = (j - (i + 1)) + 1 by omega, List.take_succ_cons]; rfl
    · left
      rw [lt_f hi, List.drop_of_length_le (by omega)]
      exact ⟨rfl, rfl⟩
theorem del_from (N : Nat) (l : List Rsp) (hl : l.length ≤ 60) : ∀ (m i j : Nat) (xs : List Rsp), i ≤ j → j ≤ l.length → l.length < m + j → xs.length = l.length → xs.drop j = l.drop j →
    ∃ (i' : Nat) (xs' : List Rsp), F_reply_Tagged_l34 N m (i : Int) (j : Int) xs = some ((i' : Int), xs') ∧ xs'.length = l.length ∧ i' ≤ l.length ∧ xs'.take i' = xs.take i ++ (l.drop j).filter tg
  | 0, i, j, xs, _, h, h', _, _ => by omega
  | m + 1, i, j, xs, hij, h, h', hx, hd => by
    unfold F_reply_Tagged_l34 F_reply_Tagged_l34_t
    by_cases hj : j < l.length
    · have hjx : j < xs.length := by omega
      have e0 : xs[j] = l[j] := by
        have h1 := drop_one hjx; have h2 := drop_one hj
        rw [hd, h2] at h1
        exact (List.cons.inj h1).1.symm
      have e1 : xs.drop (j + 1) = l.drop (j + 1) := by
        have h1 := drop_one hjx; have h2 := drop_one hj
        rw [hd, h2] at h1
        exact (List.cons.inj h1).2.symm
      simp only [lt_t hjx, cond_true, Int.toNat_natCast, nth_t hjx, inb_t hjx, inb_t (show i < xs.length by omega)]
      rw [wri (x := (j : Int) + 1) (by omega) (by omega), show ((j : Int) + 1) = ((j + 1 : Nat) : Int) by omega, drop_one hj, List.filter_cons]
      cases h1 : (xs[j].1 == (9 : Int))
      · rw [show (!(xs[j].1 != (9 : Int))) = false by rw [bne, h1]; rfl, cond_false]
        obtain ⟨i', xs', q1, q2, q3, q4⟩ := del_from N l hl m i (j + 1) xs (by omega) (by omega) (by omega) hx e1
        refine ⟨i', xs', q1, q2, q3, ?_⟩
        rw [q4]
        have : tg l[j] = false := by show (l[j].1 == (9 : Int)) = false; rw [← e0]; exact h1
        simp [this]
      · rw [show (!(xs[j].1 != (9 : Int))) = true by rw [bne, h1]; rfl, cond_true, wri (x := (i : Int) + 1) (by omega) (by omega), show ((i : Int) + 1) = ((i + 1 : Nat) : Int) by omega]
        obtain ⟨i', xs', q1, q2, q3, q4⟩ := del_from N l hl m (i + 1) (j + 1) (xs.set i xs[j]) (by omega) (by omega) (by omega) (by simp [hx]) (by rw [List.drop_set_of_lt (by omega)]; exact e1)
        refine ⟨i', xs', q1, q2, q3, ?_⟩
        rw [q4]
        have : tg l[j] = true := by show (l[j].1 == (9 : Int)) = true; rw [← e0]; exact h1
        have ht : (xs.set i xs[j]).take (i + 1) = xs.take i ++ [xs[j]] := by
          rw [List.take_add_one, List.take_set_of_le (Nat.le_refl _), List.getElem?_set_self (by omega)]; rfl
        rw [ht]
        simp [this, e0]
    · have hjx : ¬ j < xs.length := by omega
      rw [lt_f hjx, List.drop_of_length_le (by omega : l.length ≤ j)]
      exact ⟨i, xs, rfl, hx, by omega, by simp⟩
theorem tagged_says {N : Nat} {l : List Rsp} (hl : l.length ≤ 60) (hb : ∀ r ∈ l, (body r).length ≤ 500) (hN : l.length < N) : F_reply_Tagged N l = some (l.filter tg, ()) := by
  unfold F_reply_Tagged
  have h0 := own_from N l hl hb N 0 [] (by omega) (by omega) (by simp)
  have z0 : (((0 : Nat) : Int)) = (0 : Int) := rfl
  rw [z0, List.drop_zero, List.nil_append] at h0
  rw [own3, h0]
  simp only [Option.bind_some]
  have h1 := untag_from N l hl N 0 (by omega) (by omega)
  rw [z0, List.drop_zero] at h1
  rcases h1 with ⟨h1, h2⟩ | ⟨j, _, h3, h4, h5⟩
  · rw [h1, h2]; rfl
  · rw [h4]
    simp only [Option.bind_some, sumCase]
    rw [show ((j : Int) == (-1 : Int)) = false by simp, cond_false, wri (by omega) (by omega), show ((j : Int) + 1) = ((j + 1 : Nat) : Int) by omega]
    obtain ⟨i', xs', q1, q2, q3, q4⟩ := del_from N l hl N j (j + 1) l (by omega) (by omega) (by omega) rfl rfl
    rw [q1]
    simp only [Option.bind_some]
    rw [q2, bnds_t q3 (Nat.le_refl _)]
    simp only [Bool.and_self, cond_true, Int.toNat_natCast]
    have hup : ∀ z : Rsp, (updTo xs' i' ((List.replicate (l.length - i') z).take (l.length - i'))).length = l.length ∧ (updTo xs' i' ((List.replicate (l.length - i') z).take (l.length - i'))).take i' = xs'.take i' := fun z => by
      unfold updTo
      refine ⟨by simp; omega, ?_⟩
      rw [List.append_assoc, List.take_append_of_le_length (by simp; omega), List.take_take, Nat.min_self]
    obtain ⟨u1, u2⟩ := hup ((0 : Int), ((0 : Int), (([] : List UInt8), ((0 : Int), (([] : List UInt8), ((0 : Int), ((0 : UInt8), ((0 : Int), ((0 : Int), ([] : List UInt8))))))))))
    rw [u1, show bnds (0 : Int) (i' : Int) l.length = true from bnds_t (a := 0) (by omega) q3]
    simp only [Bool.and_self, cond_true, Nat.sub_zero, Nat.zero_add, slice_take]
    rw [u2, q4, h5, Nat.sub_zero]
theorem true_y {α : Type} {f : Bool × Unit → Option α} : (Option.bind (some (true, ())) f) = f (true, ()) := rfl
/-- THE LAW. -/
theorem law (x : El (tupU [.sl uS1, .str])) (hw : Wf (tupU [.sl uS1, .str]) x) : ∃ N, F_law10_ReplyPicks N x.1 x.2.1 = some (true, ()) := by
  obtain ⟨l, tag, ⟨⟩⟩ := x
  have hl : l.length ≤ 9223372036854775807 := hw.1.1
  refine ⟨l.length + 1, ?_⟩
  show F_law10_ReplyPicks (l.length + 1) l tag = _
  unfold F_law10_ReplyPicks
  rcases few_says (N := l.length + 1) hl (by omega) with h | ⟨h, h60, hb⟩
  · rw [h]; rfl
  · rw [h]
    simp only [Option.bind_some, Bool.not_true, cond_false]
    by_cases ht : decide ((100 : Int) < ((tag.length : Nat) : Int)) = true
    · simp only [ht, cond_true]
    · simp only [Bool.not_eq_true] at ht
      simp only [ht, cond_false]
      have hN : l.length < l.length + 1 := by omega
      have z0 : (((0 : Nat) : Int)) = (0 : Int) := rfl
      have h1 := idx_from (l.length + 1) l tag h60 (l.length + 1) 0 (by omega) (by omega)
      rw [z0, List.drop_zero] at h1
      rw [h1]
      have hp := fun a at_ b c ok => pick_from (l.length + 1) l h60 a at_ b c ok (l.length + 1) 0 0 [] (by omega) (by omega) (by omega) (by simp)
      simp only [z0, List.drop_zero, List.nil_append, Nat.zero_add] at hp
      have hc := count_from (l.length + 1) l h60 9 (l.length + 1) 0 0 (by omega) (by omega) (by omega)
      simp only [z0, List.drop_zero, Nat.zero_add] at hc
      have hcs : F_reply_Count (l.length + 1) 9 l = some ((((l.filter fun r => r.1 == (9 : Int)).length : Nat) : Int), ()) := by unfold F_reply_Count; rw [hc]; rfl
      have hfl : (l.filter tg).length ≤ l.length := List.length_filter_le _ _
      have hs := samel_says (N := l.length + 1) (l := l.filter tg) (by omega) (by omega)
      cases hf : l.findIdx? (pk tag) with
      | none =>
        simp only [Option.bind_some, sumCase]
        rw [until_says tag h60 hb hN, hf]
        simp only [Option.bind_some]
        rw [hp]
        simp only [Option.bind_some]
        rw [hcs]
        simp only [Option.bind_some, bne_self_eq_false, cond_false]
        rw [tagged_says h60 hb hN]
        simp only [Option.bind_some]
        rw [hs, samel_says h60 hN]
        rfl
      | some j =>
        have hj : j < l.length := by
          obtain ⟨h, _⟩ := List.findIdx?_eq_some_iff_getElem.1 hf; exact h
        simp only [Option.bind_some, sumCase, Nat.zero_add]
        rw [until_says tag h60 hb hN, hf]
        simp only [Option.bind_some]
        rw [hp]
        simp only [Option.bind_some]
        rw [hcs]
        simp only [Option.bind_some, bne_self_eq_false, cond_false]
        rw [tagged_says h60 hb hN]
        simp only [Option.bind_some]
        rw [hs]
        have b2 := bnds_t (a := j + 1) (b := l.length) (n := l.length) (by omega) (by omega)
        have b1 := bnds_t (a := 0) (b := j) (n := l.length) (by omega) (by omega)
        rw [z0] at b1
        simp only [Option.bind_some, Bool.not_true, cond_false]
        rw [decide_eq_true (show (0 : Int) ≤ (j : Int) by omega), decide_eq_false (show ¬ (j : Int) < 0 by omega)]
        simp only [beq_self_eq_true, Bool.not_true, cond_false, cond_true]
        rw [wri (by omega) (by omega), show ((j : Int) + 1) = ((j + 1 : Nat) : Int) by omega, b1, b2]
        simp only [Bool.and_self, cond_true, Int.toNat_natCast, slice_take, slice_drop]
        rw [samel_says (by simp; omega) (by simp; omega)]
        simp only [Option.bind_some, cond_true]
        rw [samel_says (by simp; omega) (by simp; omega)]
        rfl
end Go.Proofs.YtnoodkgfjdajgaaGreatDoor
