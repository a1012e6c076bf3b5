/- AuditOrders, the plain law: Orders returns the result of the reference. -/
import Derived.Test.YtnoodkgfjdajgaaGreatDoorAoFa
import Derived.Test.YtnoodkgfjdajgaaGreatDoorBase4
set_option linter.unusedVariables false
set_option linter.unusedSimpArgs false
namespace Go.Proofs.YtnoodkgfjdajgaaGreatDoor
open Go Go.Gx Go.Mx Go.Sx
abbrev iu : U := .int .i64
/-- The answer of both. -/
def Right (o c : List Int) : Prop := (∀ (i : Nat) (h : i < c.length), (o.count ((i : Nat) : Int) : Int) = c[i]) ∧ ∀ x ∈ o, 0 ≤ x ∧ x < (c.length : Int)
def cn (n : Nat) : Option Int := if n = 0 then none else some (n : Int)
theorem cn_getD (n : Nat) : Option.getD (cn n) (0 : Int) = (n : Int) := by
  unfold cn
  split
  · rename_i h; rw [h]; rfl
  · rfl
theorem find_put' (m : List (Int × Int)) (k x k' : Int) : kvFind iu iu (kvPut iu iu m k x) k' = if k' = k then some x else kvFind iu iu m k' := by
  refine (kvFind_put (u := iu) (v := iu) sameK_int k x k' m).trans ?_
  by_cases h : k' = k
  · rw [if_pos h, (sameK_int (k := .i64) k' k).2 h]; rfl
  · rw [if_neg h, show sameK (.int .i64) k' k = false from sameK_ne sameK_int h]; rfl
theorem find_del' {m : List (Int × Int)} (hm : kvNd iu iu m) (k k' : Int) : kvFind iu iu (kvDel iu iu m k) k' = if k' = k then none else kvFind iu iu m k' := by
  refine (kvFind_del (u := iu) (v := iu) sameK_int k k' hm).trans ?_
  by_cases h : k' = k
  · rw [if_pos h, (sameK_int (k := .i64) k' k).2 h]; rfl
  · rw [if_neg h, show sameK (.int .i64) k' k = false from sameK_ne sameK_int h]; rfl
theorem count_succ (o : List Int) {i : Nat} (h : i < o.length) (k : Int) : (o.take (i + 1)).count k = (o.take i).count k + if k = o[i] then 1 else 0 := by
  rw [List.take_succ_eq_append_getElem h, List.count_append, List.count_singleton]
  by_cases e : k = o[i]
  · rw [if_pos e, if_pos (by rw [e]; simp)]
  · rw [if_neg e, if_neg (by simp; exact fun h => e h.symm)]
theorem fill_from (N : Nat) (c o : List Int) (ho : o.length ≤ 100) : ∀ (m i : Nat) (acc : List (Int × Int)), i ≤ o.length → o.length < m + i → kvNd iu iu acc → (∀ k : Int, kvFind iu iu acc k = cn ((o.take i).count k)) →
    ∃ b, F_audit_Orders_l19 N m c o (o.length : Int) (i : Int) acc = some (c, b) ∧ kvNd iu iu b ∧ ∀ k : Int, kvFind iu iu b k = cn (o.count k)
  | 0, i, acc, h, h', _, _ => by omega
  | m + 1, i, acc, h, h', hn, hf => by
    unfold F_audit_Orders_l19 F_audit_Orders_l19_t
    by_cases hi : i < o.length
    · simp only [lt_t hi, cond_true, Int.toNat_natCast, inb_t hi]
      rw [show nth (.int .i64) o i = o[i] from nth_t hi]
      have hc : (o.take i).count o[i] ≤ 100 := Nat.le_trans (Nat.le_trans List.count_le_length (by rw [List.length_take]; omega)) ho
      rw [show kvFind (.int .i64) (.int .i64) acc o[i] = cn ((o.take i).count o[i]) from hf _, cn_getD]
      rw [wri (x := (i : Int) + 1) (by omega) (by omega), show ((i : Int) + 1) = ((i + 1 : Nat) : Int) by omega, wri (by omega) (by omega)]
      refine fill_from N c o ho m (i + 1) _ (by omega) (by omega) (kvNd_put sameK_int _ _ hn) fun k => ?_
      rw [find_put', count_succ o hi]
      by_cases e : k = o[i]
      · rw [if_pos e, if_pos e, e]
        unfold cn
        rw [if_neg (by omega)]
        congr 1
      · rw [if_neg e, if_neg e]; exact hf k
    · rw [lt_f hi, List.take_of_length_le (by omega)] at *
      exact ⟨acc, rfl, hn, hf⟩
theorem draw_from (N : Nat) (c o : List Int) (hc : c.length ≤ 200) : ∀ (m i : Nat) (acc : List (Int × Int)), i ≤ c.length → c.length < m + i → kvNd iu iu acc → (∀ k : Int, kvFind iu iu acc k = if 0 ≤ k ∧ k < (i : Int) then none else cn (o.count k)) →
    (∃ b, F_audit_Orders_l30 N m c (c.length : Int) (i : Int) acc = some (.inl b) ∧ ¬ Right o c) ∨
    ∃ b, F_audit_Orders_l30 N m c (c.length : Int) (i : Int) acc = some (.inr b) ∧ (∀ (j : Nat) (h : j < c.length), i ≤ j → (o.count ((j : Nat) : Int) : Int) = c[j]) ∧ (b = [] ↔ ∀ x ∈ o, 0 ≤ x ∧ x < (c.length : Int))
  | 0, i, acc, h, h', _, _ => by omega
  | m + 1, i, acc, h, h', hn, hf => by
    unfold F_audit_Orders_l30 F_audit_Orders_l30_t
    by_cases hi : i < c.length
    · simp only [lt_t hi, cond_true, Int.toNat_natCast, inb_t hi]
      rw [show nth (.int .i64) c i = c[i] from nth_t hi]
      rw [show kvFind (.int .i64) (.int .i64) acc (i : Int) = cn (o.count ((i : Nat) : Int)) by have := hf (i : Int); rw [if_neg (by omega)] at this; exact this, cn_getD]
      by_cases he : (o.count ((i : Nat) : Int) : Int) = c[i]
      · rw [show ((o.count ((i : Nat) : Int) : Int) != c[i]) = false by simp [he]]
        simp only [cond_false]
        rw [wri (x := (i : Int) + 1) (by omega) (by omega), show ((i : Int) + 1) = ((i + 1 : Nat) : Int) by omega]
        rcases draw_from N c o hc m (i + 1) (kvDel iu iu acc (i : Int)) (by omega) (by omega) (kvNd_del sameK_int _ hn) (fun k => by
          rw [find_del' hn, hf k]
          by_cases e : k = (i : Int)
          · rw [if_pos e, if_pos (by omega)]
          · rw [if_neg e]
            by_cases e2 : 0 ≤ k ∧ k < (i : Int)
            · rw [if_pos e2, if_pos (by omega)]
            · rw [if_neg e2, if_neg (by omega)]) with h1 | ⟨b, h1, h2, h3⟩
        · exact .inl h1
        · refine .inr ⟨b, h1, fun j hj hij => ?_, h3⟩
          by_cases e : j = i
          · subst e; exact he
          · exact h2 j hj (by omega)
      · rw [show ((o.count ((i : Nat) : Int) : Int) != c[i]) = true by simp [he]]
        exact .inl ⟨acc, rfl, fun hR => he (hR.1 i hi)⟩
    · have : i = c.length := by omega
      subst this
      rw [lt_f hi]
      refine .inr ⟨acc, rfl, fun j hj hij => by omega, ?_⟩
      rw [kv_nil (u := iu) (v := iu) sameK_int]
      constructor
      · intro hk x hx
        have := hk x
        rw [hf x] at this
        by_cases e : 0 ≤ x ∧ x < (c.length : Int)
        · exact e
        · rw [if_neg e] at this
          unfold cn at this
          split at this
          · rename_i h0
            exact absurd hx (List.count_eq_zero.1 h0)
          · cases this
      · intro hx k
        rw [hf k]
        split
        · rfl
        · rename_i e
          unfold cn
          rw [if_pos (List.count_eq_zero.2 fun hk => e (hx k hk))]
theorem orders_says {N : Nat} (o c : List Int) (ho : o.length ≤ 100) (hc : c.length ≤ 200) (hN : 200 < N) : ∃ r : Bool, F_audit_Orders N o c = some (r, ()) ∧ (r = true ↔ Right o c) := by
  unfold F_audit_Orders
  obtain ⟨b, h1, h2, h3⟩ := fill_from N c o ho N 0 [] (by omega) (by omega) trivial (fun k => by rw [List.take_zero]; rfl)
  rw [show (0 : Int) = ((0 : Nat) : Int) from rfl, show F_audit_Orders_l19 N N c o ((o.length : Nat) : Int) ((0 : Nat) : Int) ([] : List (Int × Int)) = some (c, b) from h1]
  simp only [Option.bind_some]
  rcases draw_from N c o hc N 0 b (by omega) (by omega) h2 (fun k => by rw [if_neg (by omega)]; exact h3 k) with ⟨b', h4, h5⟩ | ⟨b', h4, h5, h6⟩
  · rw [h4]
    exact ⟨false, rfl, (fun h => nomatch h), (fun h => absurd h h5)⟩
  · rw [h4]
    refine ⟨_, rfl, ?_⟩
    rw [beq_iff_eq]
    constructor
    · intro hl
      exact ⟨fun i hi => h5 i hi (by omega), h6.1 (List.length_eq_zero_iff.1 (by have : (b'.length : Int) = 0 := hl; omega))⟩
    · intro hR
      have := h6.2 hR.2
      subst this; rfl
theorem scan_from (N : Nat) (o c : List Int) (ho : o.length ≤ 100) : ∀ (m i : Nat), i ≤ o.length → o.length < m + i →
    (F_ref25_Orders_l6 N m o c (i : Int) = some (.inl ()) ∧ ¬ Right o c) ∨ (F_ref25_Orders_l6 N m o c (i : Int) = some (.inr (o, c)) ∧ ∀ x ∈ o.drop i, 0 ≤ x ∧ x < (c.length : Int))
  | 0, i, h, h' => by omega
  | m + 1, i, h, h' => by
    unfold F_ref25_Orders_l6 F_ref25_Orders_l6_t
    by_cases hi : i < o.length
    · simp only [lt_t hi, cond_true, Int.toNat_natCast, inb_t hi]
      have hn : nth (.int .i64) o i = o[i] := nth_t hi
      by_cases h1 : o[i] < 0
      · rw [decide_eq_true (show (nth (.int .i64) o i : Int) < 0 from by rw [hn]; exact h1)]
        exact .inl ⟨rfl, fun hR => by have := (hR.2 _ (List.getElem_mem hi)).1; omega⟩
      · rw [decide_eq_false (show ¬ (nth (.int .i64) o i : Int) < 0 from by rw [hn]; exact h1), cond_false]
        by_cases h2 : (c.length : Int) ≤ o[i]
        · rw [decide_eq_true (show (c.length : Int) ≤ (nth (.int .i64) o i : Int) from by rw [hn]; exact h2)]
          exact .inl ⟨rfl, fun hR => by have := (hR.2 _ (List.getElem_mem hi)).2; omega⟩
        · rw [decide_eq_false (show ¬ (c.length : Int) ≤ (nth (.int .i64) o i : Int) from by rw [hn]; exact h2)]
          rw [ cond_false, wri (by omega) (by omega), show ((i : Int) + 1) = ((i + 1 : Nat) : Int) by omega]
          rcases scan_from N o c ho m (i + 1) (by omega) (by omega) with h3 | ⟨h3, h4⟩
          · exact .inl h3
          · refine .inr ⟨h3, fun x hx => ?_⟩
            rw [drop_one hi] at hx
            rcases List.mem_cons.1 hx with rfl | hx
            · omega
            · exact h4 x hx
    · rw [lt_f hi, List.drop_of_length_le (by omega)]
      exact .inr ⟨rfl, by simp⟩
theorem tally_from (N : Nat) (o c : List Int) (ho : o.length ≤ 100) (j : Int) : ∀ (m i : Nat) (n : Nat), i ≤ o.length → o.length < m + i → n = (o.take i).count j →
    F_ref25_Orders_l44 N m o c j (n : Int) (i : Int) = some (o, c, j, (o.count j : Int))
  | 0, i, n, h, h', _ => by omega
  | m + 1, i, n, h, h', hn => by
    unfold F_ref25_Orders_l44 F_ref25_Orders_l44_t
    by_cases hi : i < o.length
    · have hle : (o.take i).count j ≤ 100 := Nat.le_trans (Nat.le_trans List.count_le_length (by rw [List.length_take]; omega)) ho
      simp only [lt_t hi, cond_true, Int.toNat_natCast, inb_t hi]
      rw [show nth (.int .i64) o i = o[i] from nth_t hi, wri (x := (i : Int) + 1) (by omega) (by omega), show ((i : Int) + 1) = ((i + 1 : Nat) : Int) by omega, wri (by omega) (by omega)]
      by_cases e : o[i] = j
      · rw [show (o[i] == j) = true by simp [e], cond_true, show ((n : Int) + 1) = ((n + 1 : Nat) : Int) by omega]
        exact tally_from N o c ho j m (i + 1) (n + 1) (by omega) (by omega) (by rw [count_succ o hi, if_pos e.symm, hn])
      · rw [show (o[i] == j) = false by simp [e], cond_false]
        exact tally_from N o c ho j m (i + 1) n (by omega) (by omega) (by rw [count_succ o hi, if_neg (Ne.symm e), hn]; rfl)
    · rw [lt_f hi]
      rw [List.take_of_length_le (by omega)] at hn
      rw [hn]; rfl
theorem comp_from {N : Nat} (o c : List Int) (ho : o.length ≤ 100) (hc : c.length ≤ 200) (hN : 200 < N) : ∀ (m i : Nat), i ≤ c.length → c.length < m + i →
    (F_ref25_Orders_l35 N m o c (i : Int) = some (.inl ()) ∧ ¬ Right o c) ∨ (F_ref25_Orders_l35 N m o c (i : Int) = some (.inr ()) ∧ ∀ (j : Nat) (h : j < c.length), i ≤ j → (o.count ((j : Nat) : Int) : Int) = c[j])
  | 0, i, h, h' => by omega
  | m + 1, i, h, h' => by
    unfold F_ref25_Orders_l35 F_ref25_Orders_l35_t
    by_cases hi : i < c.length
    · rw [lt_t hi, cond_true]
      have := tally_from N o c ho (i : Int) N 0 0 (by omega) (by omega) (by rw [List.take_zero]; rfl)
      rw [show ((0 : Nat) : Int) = 0 from rfl] at this
      rw [this]
      simp only [Option.bind_some, Int.toNat_natCast, inb_t hi, cond_true]
      rw [show nth (.int .i64) c i = c[i] from nth_t hi]
      by_cases he : (o.count ((i : Nat) : Int) : Int) = c[i]
      · rw [show ((o.count ((i : Nat) : Int) : Int) != c[i]) = false by simp [he]]
        simp only [cond_false]
        rw [wri (x := (i : Int) + 1) (by omega) (by omega), show ((i : Int) + 1) = ((i + 1 : Nat) : Int) by omega]
        rcases comp_from o c ho hc hN m (i + 1) (by omega) (by omega) with h1 | ⟨h1, h2⟩
        · exact .inl h1
        · refine .inr ⟨h1, fun j hj hij => ?_⟩
          by_cases e : j = i
          · subst e; exact he
          · exact h2 j hj (by omega)
      · rw [show ((o.count ((i : Nat) : Int) : Int) != c[i]) = true by simp [he]]
        exact .inl ⟨rfl, fun hR => he (hR.1 i hi)⟩
    · rw [lt_f hi]
      exact .inr ⟨rfl, fun j hj hij => by omega⟩
theorem ref_says {N : Nat} (o c : List Int) (ho : o.length ≤ 100) (hc : c.length ≤ 200) (hN : 200 < N) : ∃ r : Bool, F_ref25_Orders N o c = some (r, ()) ∧ (r = true ↔ Right o c) := by
  unfold F_ref25_Orders
  rw [show (0 : Int) = ((0 : Nat) : Int) from rfl]
  rcases scan_from N o c ho N 0 (by omega) (by omega) with ⟨h1, h2⟩ | ⟨h1, h2⟩
  · rw [h1]
    exact ⟨false, rfl, (fun h => nomatch h), (fun h => absurd h h2)⟩
  · rw [h1]
    simp only [Option.bind_some, sumCase]
    rcases comp_from o c ho hc hN N 0 (by omega) (by omega) with ⟨h3, h4⟩ | ⟨h3, h4⟩
    · rw [h3]
      exact ⟨false, rfl, (fun h => nomatch h), (fun h => absurd h h4)⟩
    · rw [h3]
      exact ⟨true, rfl, fun _ => ⟨fun i hi => h4 i hi (by omega), by simpa using h2⟩, fun _ => rfl⟩
theorem wide_from (N : Nat) (c : List UInt8) (o : List Int) (ho : o.length ≤ 100) (hb : ∀ x ∈ o, -128 ≤ x ∧ x ≤ 127) : ∀ (m i : Nat), i ≤ o.length → o.length < m + i →
    F_law25_AuditOrders_l19 N m c o (o.length : Int) (i : Int) (o.take i) = some (c, o)
  | 0, i, h, h' => by omega
  | m + 1, i, h, h' => by
    unfold F_law25_AuditOrders_l19 F_law25_AuditOrders_l19_t
    by_cases hi : i < o.length
    · simp only [lt_t hi, cond_true, Int.toNat_natCast, inb_t hi]
      have hx := hb _ (List.getElem_mem hi)
      rw [show nth (.int .i8) o i = o[i] from nth_t hi, wri (x := (i : Int) + 1) (by omega) (by omega), show ((i : Int) + 1) = ((i + 1 : Nat) : Int) by omega, wri (by omega) (by omega)]
      rw [show Nat.blt ((o.take i).length + 1) lim39 = true by rw [Nat.blt_eq, List.length_take]; unfold lim39; omega, cond_true, ← List.take_succ_eq_append_getElem hi]
      exact wide_from N c o ho hb m (i + 1) (by omega) (by omega)
    · rw [lt_f hi, List.take_of_length_le (by omega)]; rfl
def ints (c : List UInt8) : List Int := c.map fun b => ((b.toNat : Nat) : Int)
theorem wide8_from (N : Nat) (l : List Int) (c : List UInt8) (hc : c.length ≤ 30) : ∀ (m i : Nat), i ≤ c.length → c.length < m + i →
    F_law25_AuditOrders_l37 N m c (c.length : Int) (i : Int) l (ints (c.take i)) = some (l, ints c)
  | 0, i, h, h' => by omega
  | m + 1, i, h, h' => by
    unfold F_law25_AuditOrders_l37 F_law25_AuditOrders_l37_t
    by_cases hi : i < c.length
    · simp only [lt_t hi, cond_true, Int.toNat_natCast, inb_t hi]
      have hx := c[i].toNat_lt
      rw [show nth .u8 c i = c[i] from nth_t hi, wri (x := (i : Int) + 1) (by omega) (by omega), show ((i : Int) + 1) = ((i + 1 : Nat) : Int) by omega, wri (by omega) (by omega)]
      rw [show Nat.blt ((ints (c.take i)).length + 1) lim39 = true by rw [Nat.blt_eq]; unfold ints lim39; rw [List.length_map, List.length_take]; omega, cond_true]
      have : ints (c.take i) ++ [((c[i].toNat : Nat) : Int)] = ints (c.take (i + 1)) := by
        unfold ints; rw [List.take_succ_eq_append_getElem hi, List.map_append]; rfl
      rw [this]
      exact wide8_from N l c hc m (i + 1) (by omega) (by omega)
    · rw [lt_f hi, List.take_of_length_le (by omega)]; rfl
/-- The counts of what is not negative. -/
def tab128 (s : List Int) : List Int := (List.range 128).map fun j => (s.count ((j : Nat) : Int) : Int)
theorem tab_length (s : List Int) : (tab128 s).length = 128 := by unfold tab128; simp
theorem tab_get (s : List Int) (j : Nat) (h : j < (tab128 s).length) : (tab128 s)[j] = (s.count ((j : Nat) : Int) : Int) := by
  exact (List.getElem_of_eq (show tab128 s = (List.range 128).map fun j => (s.count ((j : Nat) : Int) : Int) from rfl) h).trans (by simp)
theorem tally2_from (N : Nat) (o d : List Int) (ho : o.length ≤ 100) (hb : ∀ x ∈ o, -128 ≤ x ∧ x ≤ 127) : ∀ (m i : Nat), i ≤ o.length → o.length < m + i →
    F_law25_AuditOrders_l48 N m (o.length : Int) (i : Int) o d (tab128 (o.take i)) = some (o, d, tab128 o)
  | 0, i, h, h' => by omega
  | m + 1, i, h, h' => by
    unfold F_law25_AuditOrders_l48 F_law25_AuditOrders_l48_t
    by_cases hi : i < o.length
    · simp only [lt_t hi, cond_true, Int.toNat_natCast, inb_t hi]
      have hx := hb _ (List.getElem_mem hi)
      have hn : nth (.int .i64) o i = o[i] := nth_t hi
      rw [wri (x := (i : Int) + 1) (by omega) (by omega), show ((i : Int) + 1) = ((i + 1 : Nat) : Int) by omega]
      by_cases h0 : 0 ≤ o[i]
      · rw [decide_eq_true (show 0 ≤ (nth (.int .i64) o i : Int) from by rw [hn]; exact h0), cond_true]
        obtain ⟨k, hk⟩ := Int.eq_ofNat_of_zero_le h0
        have hk128 : k < (tab128 (o.take i)).length := by rw [tab_length]; omega
        rw [hn, hk]
        simp only [inb_t hk128, cond_true, Int.toNat_natCast]
        rw [show nth (.int .i64) (tab128 (o.take i)) k = (tab128 (o.take i))[k] from nth_t hk128, tab_get]
        have hle : (o.take i).count ((k : Nat) : Int) ≤ 100 := Nat.le_trans (Nat.le_trans List.count_le_length (by rw [List.length_take]; omega)) ho
        rw [wri (by omega) (by omega)]
        have : (tab128 (o.take i)).set k ((((o.take i).count ((k : Nat) : Int) : Nat) : Int) + 1) = tab128 (o.take (i + 1)) := by
          apply List.ext_getElem
          · rw [List.length_set, tab_length, tab_length]
          · intro j h1 h2
            rw [List.getElem_set, tab_get (o.take (i + 1)) j, count_succ o hi]
            by_cases e : k = j
            · subst e
              rw [if_pos rfl, if_pos hk.symm]; rfl
            · rw [if_neg e, if_neg (by rw [hk]; omega), tab_get]; rfl
        rw [this]
        exact tally2_from N o d ho hb m (i + 1) (by omega) (by omega)
      · rw [decide_eq_false (show ¬ 0 ≤ (nth (.int .i64) o i : Int) from by rw [hn]; exact h0), cond_false]
        have : tab128 (o.take i) = tab128 (o.take (i + 1)) := by
          apply List.ext_getElem
          · rw [tab_length, tab_length]
          · intro j h1 h2
            rw [tab_get, tab_get, count_succ o hi, if_neg (by omega)]; rfl
        rw [this]
        exact tally2_from N o d ho hb m (i + 1) (by omega) (by omega)
    · rw [lt_f hi, List.take_of_length_le (by omega)]; rfl
theorem neg_from (N : Nat) (o : List Int) (ho : o.length ≤ 100) : ∀ (m i : Nat), i ≤ o.length → o.length < m + i →
    (∃ k : Nat, F_law25_AuditOrders_l55 N m (o.length : Int) (i : Int) o = some (.inl ((k : Int), o)) ∧ ¬ ∀ x ∈ o, 0 ≤ x) ∨ (F_law25_AuditOrders_l55 N m (o.length : Int) (i : Int) o = some (.inr o) ∧ ∀ x ∈ o.drop i, 0 ≤ x)
  | 0, i, h, h' => by omega
  | m + 1, i, h, h' => by
    unfold F_law25_AuditOrders_l55 F_law25_AuditOrders_l55_t
    by_cases hi : i < o.length
    · simp only [lt_t hi, cond_true, Int.toNat_natCast, inb_t hi]
      have hn : nth (.int .i64) o i = o[i] := nth_t hi
      by_cases h1 : o[i] < 0
      · rw [decide_eq_true (show (nth (.int .i64) o i : Int) < 0 from by rw [hn]; exact h1)]
        exact .inl ⟨i, rfl, fun hR => by have := hR _ (List.getElem_mem hi); omega⟩
      · rw [decide_eq_false (show ¬ (nth (.int .i64) o i : Int) < 0 from by rw [hn]; exact h1)]
        rw [cond_false, wri (by omega) (by omega), show ((i : Int) + 1) = ((i + 1 : Nat) : Int) by omega]
        rcases neg_from N o ho m (i + 1) (by omega) (by omega) with h3 | ⟨h3, h4⟩
        · exact .inl h3
        · refine .inr ⟨h3, fun x hx => ?_⟩
          rw [drop_one hi] at hx
          rcases List.mem_cons.1 hx with rfl | hx
          · omega
          · exact h4 x hx
    · rw [lt_f hi, List.drop_of_length_le (by omega)]
      exact .inr ⟨rfl, by simp⟩
theorem right_tab {o : List Int} (hb : ∀ x ∈ o, -128 ≤ x ∧ x ≤ 127) : Right o (tab128 o) ↔ ∀ x ∈ o, 0 ≤ x := by
  constructor
  · intro h x hx; exact (h.2 x hx).1
  · intro h
    refine ⟨fun i hi => (tab_get o i hi).symm, fun x hx => ⟨h x hx, ?_⟩⟩
    rw [tab_length]; have := hb x hx; omega
/-- THE LAW. -/
theorem law (x : El (tupU [.sl (.int .i8), .sl .u8])) (hw : Wf (tupU [.sl (.int .i8), .sl .u8]) x) : ∃ N, F_law25_AuditOrders N x.1 x.2.1 = some (true, ()) := by
  obtain ⟨o, c, ⟨⟩⟩ := x
  have hb : ∀ x ∈ (o : List Int), -128 ≤ x ∧ x ≤ 127 := fun x hx => hw.1.2 x hx
  refine ⟨201, ?_⟩
  show F_law25_AuditOrders 201 o c = _
  unfold F_law25_AuditOrders
  by_cases h1 : (100 : Int) < ((List.length o : Nat) : Int)
  · rw [decide_eq_true h1]; rfl
  · rw [decide_eq_false h1, cond_false]
    by_cases h2 : (30 : Int) < ((List.length c : Nat) : Int)
    · rw [decide_eq_true h2]; rfl
    · rw [decide_eq_false h2, cond_false]
      have ho : List.length o ≤ 100 := by omega
      have hc : List.length c ≤ 30 := by omega
      have a1 := wide_from 201 c o ho hb 201 0 (by omega) (by omega)
      have z0 : ((0 : Nat) : Int) = 0 := rfl
      rw [z0, List.take_zero] at a1
      rw [a1]
      simp only [Option.bind_some]
      have a2 := wide8_from 201 o c hc 201 0 (by omega) (by omega)
      rw [z0, List.take_zero] at a2
      rw [show ints [] = [] from rfl] at a2
      rw [a2]
      simp only [Option.bind_some]
      have a3 := tally2_from 201 o (ints c) ho hb 201 0 (by omega) (by omega)
      rw [z0, List.take_zero, show tab128 [] = List.replicate 128 (0 : Int) by decide] at a3
      rw [a3]
      simp only [Option.bind_some]
      have a4 := neg_from 201 o ho 201 0 (by omega) (by omega)
      rw [z0] at a4
      obtain ⟨r1, e1, k1⟩ := orders_says (N := 201) o (ints c) ho (by unfold ints; rw [List.length_map]; omega) (by omega)
      obtain ⟨r2, e2, k2⟩ := ref_says (N := 201) o (ints c) ho (by unfold ints; rw [List.length_map]; omega) (by omega)
      obtain ⟨r3, e3, k3⟩ := orders_says (N := 201) o (tab128 o) ho (by rw [tab_length]; omega) (by omega)
      have hr : r1 = r2 := by
        cases r1 <;> cases r2 <;> simp_all
      rw [right_tab hb] at k3
      rcases a4 with ⟨k, h3, h4⟩ | ⟨h3, h4⟩
      · rw [h3]
        have : r3 = false := by
          cases h9 : r3 with
          | false => rfl
          | true => exact absurd (k3.1 h9) h4
        simp only [Option.bind_some, sumCase, cond_true, e1, e2, e3, hr, beq_self_eq_true, this]
        rw [decide_eq_true (show (0 : Int) ≤ (k : Int) by omega)]; rfl
      · rw [h3]
        have : r3 = true := k3.2 (by simpa using h4)
        simp only [Option.bind_some, sumCase, cond_true, e1, e2, e3, hr, beq_self_eq_true, this]
end Go.Proofs.YtnoodkgfjdajgaaGreatDoor
