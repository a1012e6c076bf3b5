/- CommandNames, the plain law: Verb, Kind and Item return the results of the reference. -/
import Derived.Test.YtnoodkgfjdajgaaGreatDoorCnFa
import Derived.Test.YtnoodkgfjdajgaaGreatDoorBase4
set_option linter.unusedVariables false
set_option linter.unusedSimpArgs false
set_option maxRecDepth 100000
namespace Go.Proofs.YtnoodkgfjdajgaaGreatDoor
open Go Go.Gx Go.Mx Go.Sx
def up (c : UInt8) : UInt8 := cond (decide ((97 : UInt8) ≤ c)) (cond (decide (c ≤ (122 : UInt8))) (c - 32) c) c
theorem up_and (c : UInt8) (h1 : decide ((97 : UInt8) ≤ c) = true) (h2 : decide (c ≤ (122 : UInt8)) = true) : c &&& ~~~(32 : UInt8) = c - 32 := by
  have key : ∀ n : Fin 256, decide ((97 : UInt8) ≤ UInt8.ofNat n.val) = true → decide (UInt8.ofNat n.val ≤ (122 : UInt8)) = true → UInt8.ofNat n.val &&& ~~~(32 : UInt8) = UInt8.ofNat n.val - 32 := by decide +kernel
  have := key ⟨c.toNat, c.toNat_lt⟩
  simp only [UInt8.ofNat_toNat] at this
  exact this h1 h2
theorem set_up {s : List UInt8} {i : Nat} (h : i < s.length) : ((s.take i).map up ++ s.drop i).set i (up s[i]) = (s.take (i + 1)).map up ++ s.drop (i + 1) := by
  have hl : ((s.take i).map up).length = i := by rw [List.length_map, List.length_take]; omega
  rw [List.set_append, if_neg (by omega), hl, Nat.sub_self, drop_one h, List.set_cons_zero, List.take_succ_eq_append_getElem h, List.map_append, List.append_assoc]
  rfl
theorem nth_up {s : List UInt8} {i : Nat} (h : i < s.length) : nth .u8 ((s.take i).map up ++ s.drop i) i = s[i] := by
  have hl : ((s.take i).map up).length = i := by rw [List.length_map, List.length_take]; omega
  have h2 : i < ((s.take i).map up ++ s.drop i).length := by rw [List.length_append, hl, List.length_drop]; omega
  rw [show nth .u8 ((s.take i).map up ++ s.drop i) i = ((s.take i).map up ++ s.drop i)[i] from nth_t h2, List.getElem_append_right (by omega)]
  simp only [hl, Nat.sub_self, List.getElem_drop, Nat.add_zero]
theorem upper_from (N : Nat) (s : List UInt8) (hs : s.length ≤ 300) : ∀ (m i : Nat), i ≤ s.length → s.length < m + i →
    F_char_Upper_l8 N m (s.length : Int) (i : Int) ((s.take i).map up ++ s.drop i) = some (s.map up)
  | 0, i, h, h' => by omega
  | m + 1, i, h, h' => by
    unfold F_char_Upper_l8 F_char_Upper_l8_t
    by_cases hi : i < s.length
    · have hlen : i < ((s.take i).map up ++ s.drop i).length := by rw [List.length_append, List.length_map, List.length_take, List.length_drop]; omega
      have hn : nth .u8 ((s.take i).map up ++ s.drop i) (Int.toNat (i : Int)) = s[i] := by rw [Int.toNat_natCast]; exact nth_up hi
      simp only [lt_t hi, cond_true, inb_t hlen]
      generalize nth .u8 ((s.take i).map up ++ s.drop i) (Int.toNat (i : Int)) = c at hn ⊢
      subst hn
      rw [Int.toNat_natCast, wri (by omega) (by omega), show ((i : Int) + 1) = ((i + 1 : Nat) : Int) by omega]
      have ih := upper_from N s hs m (i + 1) (by omega) (by omega)
      rw [← set_up hi] at ih
      cases h1 : decide ((97 : UInt8) ≤ s[i]) with
      | true =>
        cases h2 : decide (s[i] ≤ (122 : UInt8)) with
        | true =>
          simp only [cond_true]
          rw [up_and _ h1 h2]
          simpa only [up, h1, h2, cond_true] using ih
        | false =>
          simp only [cond_true, cond_false]
          simpa only [up, h1, h2, cond_true, cond_false] using ih
      | false =>
        simp only [cond_false]
        simpa only [up, h1, cond_false] using ih
    · rw [lt_f hi, List.take_of_length_le (by omega), List.drop_of_length_le (by omega), List.append_nil]; rfl
theorem upper_says (s : List UInt8) (hs : s.length ≤ 300) : F_char_Upper 1000 s = some (s.map up, ()) := by
  unfold F_char_Upper
  rw [show Nat.blt s.length lim39 = true by rw [Nat.blt_eq]; unfold lim39; omega, cond_true]
  have := upper_from 1000 s hs 1000 0 (by omega) (by omega)
  rw [List.take_zero, List.drop_zero, List.map_nil, List.nil_append, show ((0 : Nat) : Int) = 0 from rfl] at this
  rw [this]; rfl
theorem rupper_from (N : Nat) (s : List UInt8) (hs : s.length ≤ 300) : ∀ (m i : Nat), i ≤ s.length → s.length < m + i →
    F_ref01_Upper_l5 N m s ((s.take i).map up) (i : Int) = some (s.map up)
  | 0, i, h, h' => by omega
  | m + 1, i, h, h' => by
    unfold F_ref01_Upper_l5 F_ref01_Upper_l5_t
    by_cases hi : i < s.length
    · have hn : nth .u8 s (Int.toNat (i : Int)) = s[i] := by rw [Int.toNat_natCast]; exact nth_t hi
      have hcap : ∀ c : UInt8, decide (((s.take i).map up).length + ([c] : List UInt8).length < 4611686018427387904) = true := fun c => by
        rw [decide_eq_true_eq, List.length_map, List.length_take]; simp; omega
      simp only [lt_t hi, cond_true, inb_t hi, hcap]
      generalize nth .u8 s (Int.toNat (i : Int)) = c at hn ⊢
      subst hn
      rw [wri (by omega) (by omega), show ((i : Int) + 1) = ((i + 1 : Nat) : Int) by omega]
      have ih := rupper_from N s hs m (i + 1) (by omega) (by omega)
      rw [List.take_succ_eq_append_getElem hi, List.map_append, show [s[i]].map up = [up s[i]] from rfl] at ih
      cases h1 : decide ((97 : UInt8) ≤ s[i]) with
      | true =>
        cases h2 : decide (s[i] ≤ (122 : UInt8)) with
        | true =>
          simp only [cond_true]
          simpa only [up, h1, h2, cond_true] using ih
        | false =>
          simp only [cond_true, cond_false]
          simpa only [up, h1, h2, cond_true, cond_false] using ih
      | false =>
        simp only [cond_false]
        simpa only [up, h1, cond_false] using ih
    · rw [lt_f hi, List.take_of_length_le (by omega)]; rfl
theorem rupper_says (s : List UInt8) (hs : s.length ≤ 300) : F_ref01_Upper 1000 s = some (s.map up, ()) := by
  unfold F_ref01_Upper
  have := rupper_from 1000 s hs 1000 0 (by omega) (by omega)
  rw [List.take_zero, List.map_nil, show ((0 : Nat) : Int) = 0 from rfl] at this
  rw [this]; rfl
def verbs : List (List UInt8) := [([78, 79, 79, 80] : List UInt8), ([76, 79, 71, 79, 85, 84] : List UInt8), ([67, 76, 79, 83, 69] : List UInt8), ([69, 88, 80, 85, 78, 71, 69] : List UInt8), ([83, 69, 76, 69, 67, 84] : List UInt8), ([65, 80, 80, 69, 78, 68] : List UInt8), ([70, 69, 84, 67, 72] : List UInt8), ([83, 84, 79, 82, 69] : List UInt8)]
theorem ix_verbs (u : List UInt8) : F_slices_Index_string_string_l8 1000 1000 verbs u 8 0 = (cond (u == ([78, 79, 79, 80] : List UInt8)) (some (.inl 0)) (cond (u == ([76, 79, 71, 79, 85, 84] : List UInt8)) (some (.inl 1)) (cond (u == ([67, 76, 79, 83, 69] : List UInt8)) (some (.inl 2)) (cond (u == ([69, 88, 80, 85, 78, 71, 69] : List UInt8)) (some (.inl 3)) (cond (u == ([83, 69, 76, 69, 67, 84] : List UInt8)) (some (.inl 4)) (cond (u == ([65, 80, 80, 69, 78, 68] : List UInt8)) (some (.inl 5)) (cond (u == ([70, 69, 84, 67, 72] : List UInt8)) (some (.inl 6)) (cond (u == ([83, 84, 79, 82, 69] : List UInt8)) (some (.inl 7)) (some (.inr ())))))))))) := by kernel_rfl
def items : List (List UInt8) := [([70, 76, 65, 71, 83] : List UInt8), ([85, 73, 68] : List UInt8), ([82, 70, 67, 56, 50, 50, 46, 83, 73, 90, 69] : List UInt8), ([66, 79, 68, 89, 46, 80, 69, 69, 75, 91, 93] : List UInt8), ([66, 79, 68, 89, 91, 93] : List UInt8)]
theorem ix_items (u : List UInt8) : F_slices_Index_string_string_l8 1000 1000 items u 5 0 = (cond (u == ([70, 76, 65, 71, 83] : List UInt8)) (some (.inl 0)) (cond (u == ([85, 73, 68] : List UInt8)) (some (.inl 1)) (cond (u == ([82, 70, 67, 56, 50, 50, 46, 83, 73, 90, 69] : List UInt8)) (some (.inl 2)) (cond (u == ([66, 79, 68, 89, 46, 80, 69, 69, 75, 91, 93] : List UInt8)) (some (.inl 3)) (cond (u == ([66, 79, 68, 89, 91, 93] : List UInt8)) (some (.inl 4)) (some (.inr ()))))))) := by kernel_rfl
theorem beqc (a b : List UInt8) : (a == b) = (b == a) := by rw [Bool.eq_iff_iff, beq_iff_eq, beq_iff_eq]; exact eq_comm
theorem r_kind (s u : List UInt8) (hU : F_ref01_Upper 1000 s = some (u, ())) : F_ref07_Kind_l10 1000 1000 s 1 = (cond (u == ([78, 79, 79, 80] : List UInt8)) (some (.inl 1)) (cond (u == ([76, 79, 71, 79, 85, 84] : List UInt8)) (some (.inl 2)) (cond (u == ([67, 76, 79, 83, 69] : List UInt8)) (some (.inl 3)) (cond (u == ([69, 88, 80, 85, 78, 71, 69] : List UInt8)) (some (.inl 4)) (cond (u == ([83, 69, 76, 69, 67, 84] : List UInt8)) (some (.inl 5)) (cond (u == ([65, 80, 80, 69, 78, 68] : List UInt8)) (some (.inl 6)) (cond (u == ([70, 69, 84, 67, 72] : List UInt8)) (some (.inl 7)) (cond (u == ([83, 84, 79, 82, 69] : List UInt8)) (some (.inl 8)) (some (.inr ())))))))))) := by
  have s0 : F_ref07_Kind_l10 1000 1000 s 1 = cond (u == ([78, 79, 79, 80] : List UInt8)) (some (.inl 1)) (F_ref07_Kind_l10 1000 999 s 2) := by
    rw [show F_ref07_Kind_l10 1000 1000 s 1 = (Option.bind (F_ref01_Upper 1000 s) fun y => cond (([78, 79, 79, 80] : List UInt8) == y.1) (some (.inl 1)) (F_ref07_Kind_l10 1000 999 s 2)) from by kernel_rfl, hU, beqc u]; rfl
  have s1 : F_ref07_Kind_l10 1000 999 s 2 = cond (u == ([76, 79, 71, 79, 85, 84] : List UInt8)) (some (.inl 2)) (F_ref07_Kind_l10 1000 998 s 3) := by
    rw [show F_ref07_Kind_l10 1000 999 s 2 = (Option.bind (F_ref01_Upper 1000 s) fun y => cond (([76, 79, 71, 79, 85, 84] : List UInt8) == y.1) (some (.inl 2)) (F_ref07_Kind_l10 1000 998 s 3)) from by kernel_rfl, hU, beqc u]; rfl
  have s2 : F_ref07_Kind_l10 1000 998 s 3 = cond (u == ([67, 76, 79, 83, 69] : List UInt8)) (some (.inl 3)) (F_ref07_Kind_l10 1000 997 s 4) := by
    rw [show F_ref07_Kind_l10 1000 998 s 3 = (Option.bind (F_ref01_Upper 1000 s) fun y => cond (([67, 76, 79, 83, 69] : List UInt8) == y.1) (some (.inl 3)) (F_ref07_Kind_l10 1000 997 s 4)) from by kernel_rfl, hU, beqc u]; rfl
  have s3 : F_ref07_Kind_l10 1000 997 s 4 = cond (u == ([69, 88, 80, 85, 78, 71, 69] : List UInt8)) (some (.inl 4)) (F_ref07_Kind_l10 1000 996 s 5) := by
    rw [show F_ref07_Kind_l10 1000 997 s 4 = (Option.bind (F_ref01_Upper 1000 s) fun y => cond (([69, 88, 80, 85, 78, 71, 69] : List UInt8) == y.1) (some (.inl 4)) (F_ref07_Kind_l10 1000 996 s 5)) from by kernel_rfl, hU, beqc u]; rfl
  have s4 : F_ref07_Kind_l10 1000 996 s 5 = cond (u == ([83, 69, 76, 69, 67, 84] : List UInt8)) (some (.inl 5)) (F_ref07_Kind_l10 1000 995 s 6) := by
    rw [show F_ref07_Kind_l10 1000 996 s 5 = (Option.bind (F_ref01_Upper 1000 s) fun y => cond (([83, 69, 76, 69, 67, 84] : List UInt8) == y.1) (some (.inl 5)) (F_ref07_Kind_l10 1000 995 s 6)) from by kernel_rfl, hU, beqc u]; rfl
  have s5 : F_ref07_Kind_l10 1000 995 s 6 = cond (u == ([65, 80, 80, 69, 78, 68] : List UInt8)) (some (.inl 6)) (F_ref07_Kind_l10 1000 994 s 7) := by
    rw [show F_ref07_Kind_l10 1000 995 s 6 = (Option.bind (F_ref01_Upper 1000 s) fun y => cond (([65, 80, 80, 69, 78, 68] : List UInt8) == y.1) (some (.inl 6)) (F_ref07_Kind_l10 1000 994 s 7)) from by kernel_rfl, hU, beqc u]; rfl
  have s6 : F_ref07_Kind_l10 1000 994 s 7 = cond (u == ([70, 69, 84, 67, 72] : List UInt8)) (some (.inl 7)) (F_ref07_Kind_l10 1000 993 s 8) := by
    rw [show F_ref07_Kind_l10 1000 994 s 7 = (Option.bind (F_ref01_Upper 1000 s) fun y => cond (([70, 69, 84, 67, 72] : List UInt8) == y.1) (some (.inl 7)) (F_ref07_Kind_l10 1000 993 s 8)) from by kernel_rfl, hU, beqc u]; rfl
  have s7 : F_ref07_Kind_l10 1000 993 s 8 = cond (u == ([83, 84, 79, 82, 69] : List UInt8)) (some (.inl 8)) (F_ref07_Kind_l10 1000 992 s 9) := by
    rw [show F_ref07_Kind_l10 1000 993 s 8 = (Option.bind (F_ref01_Upper 1000 s) fun y => cond (([83, 84, 79, 82, 69] : List UInt8) == y.1) (some (.inl 8)) (F_ref07_Kind_l10 1000 992 s 9)) from by kernel_rfl, hU, beqc u]; rfl
  rw [s0, s1, s2, s3, s4, s5, s6, s7]
  rw [show F_ref07_Kind_l10 1000 992 s 9 = some (.inr ()) from by kernel_rfl]
theorem r_item (s u : List UInt8) (hU : F_ref01_Upper 1000 s = some (u, ())) : F_ref07_Item_l10 1000 1000 s 1 = (cond (u == ([70, 76, 65, 71, 83] : List UInt8)) (some (.inl 1)) (cond (u == ([85, 73, 68] : List UInt8)) (some (.inl 2)) (cond (u == ([82, 70, 67, 56, 50, 50, 46, 83, 73, 90, 69] : List UInt8)) (some (.inl 4)) (cond (u == ([66, 79, 68, 89, 46, 80, 69, 69, 75, 91, 93] : List UInt8)) (some (.inl 8)) (cond (u == ([66, 79, 68, 89, 91, 93] : List UInt8)) (some (.inl 16)) (some (.inr ()))))))) := by
  have s0 : F_ref07_Item_l10 1000 1000 s 1 = cond (u == ([70, 76, 65, 71, 83] : List UInt8)) (some (.inl 1)) (F_ref07_Item_l10 1000 999 s 2) := by
    rw [show F_ref07_Item_l10 1000 1000 s 1 = (Option.bind (F_ref01_Upper 1000 s) fun y => cond (([70, 76, 65, 71, 83] : List UInt8) == y.1) (some (.inl 1)) (F_ref07_Item_l10 1000 999 s 2)) from by kernel_rfl, hU, beqc u]; rfl
  have s1 : F_ref07_Item_l10 1000 999 s 2 = cond (u == ([85, 73, 68] : List UInt8)) (some (.inl 2)) (F_ref07_Item_l10 1000 998 s 4) := by
    rw [show F_ref07_Item_l10 1000 999 s 2 = (Option.bind (F_ref01_Upper 1000 s) fun y => cond (([85, 73, 68] : List UInt8) == y.1) (some (.inl 2)) (F_ref07_Item_l10 1000 998 s 4)) from by kernel_rfl, hU, beqc u]; rfl
  have s2 : F_ref07_Item_l10 1000 998 s 4 = cond (u == ([82, 70, 67, 56, 50, 50, 46, 83, 73, 90, 69] : List UInt8)) (some (.inl 4)) (F_ref07_Item_l10 1000 997 s 8) := by
    rw [show F_ref07_Item_l10 1000 998 s 4 = (Option.bind (F_ref01_Upper 1000 s) fun y => cond (([82, 70, 67, 56, 50, 50, 46, 83, 73, 90, 69] : List UInt8) == y.1) (some (.inl 4)) (F_ref07_Item_l10 1000 997 s 8)) from by kernel_rfl, hU, beqc u]; rfl
  have s3 : F_ref07_Item_l10 1000 997 s 8 = cond (u == ([66, 79, 68, 89, 46, 80, 69, 69, 75, 91, 93] : List UInt8)) (some (.inl 8)) (F_ref07_Item_l10 1000 996 s 16) := by
    rw [show F_ref07_Item_l10 1000 997 s 8 = (Option.bind (F_ref01_Upper 1000 s) fun y => cond (([66, 79, 68, 89, 46, 80, 69, 69, 75, 91, 93] : List UInt8) == y.1) (some (.inl 8)) (F_ref07_Item_l10 1000 996 s 16)) from by kernel_rfl, hU, beqc u]; rfl
  have s4 : F_ref07_Item_l10 1000 996 s 16 = cond (u == ([66, 79, 68, 89, 91, 93] : List UInt8)) (some (.inl 16)) (F_ref07_Item_l10 1000 995 s 32) := by
    rw [show F_ref07_Item_l10 1000 996 s 16 = (Option.bind (F_ref01_Upper 1000 s) fun y => cond (([66, 79, 68, 89, 91, 93] : List UInt8) == y.1) (some (.inl 16)) (F_ref07_Item_l10 1000 995 s 32)) from by kernel_rfl, hU, beqc u]; rfl
  rw [s0, s1, s2, s3, s4]
  rw [show F_ref07_Item_l10 1000 995 s 32 = some (.inr ()) from by kernel_rfl]
theorem kind_says (s : List UInt8) (hs : s.length ≤ 300) : ∃ n : Int, F_command_Kind 1000 s = some (n, decide (0 < n), ()) ∧ F_ref07_Kind 1000 s = some (n, ()) := by
  unfold F_command_Kind F_ref07_Kind
  rw [upper_says s hs]
  simp only [Option.bind_some]
  unfold F_slices_Index_string_string
  rw [show F_slices_Index_string_string_l8 1000 1000 [([78, 79, 79, 80] : List UInt8), ([76, 79, 71, 79, 85, 84] : List UInt8), ([67, 76, 79, 83, 69] : List UInt8), ([69, 88, 80, 85, 78, 71, 69] : List UInt8), ([83, 69, 76, 69, 67, 84] : List UInt8), ([65, 80, 80, 69, 78, 68] : List UInt8), ([70, 69, 84, 67, 72] : List UInt8), ([83, 84, 79, 82, 69] : List UInt8)] (s.map up) (((List.length ([([78, 79, 79, 80] : List UInt8), ([76, 79, 71, 79, 85, 84] : List UInt8), ([67, 76, 79, 83, 69] : List UInt8), ([69, 88, 80, 85, 78, 71, 69] : List UInt8), ([83, 69, 76, 69, 67, 84] : List UInt8), ([65, 80, 80, 69, 78, 68] : List UInt8), ([70, 69, 84, 67, 72] : List UInt8), ([83, 84, 79, 82, 69] : List UInt8)] : List (List UInt8))) : Nat) : Int) 0 = _ from ix_verbs (s.map up), r_kind s _ (rupper_says s hs)]
  generalize (s.map up == ([78, 79, 79, 80] : List UInt8)) = b0
  generalize (s.map up == ([76, 79, 71, 79, 85, 84] : List UInt8)) = b1
  generalize (s.map up == ([67, 76, 79, 83, 69] : List UInt8)) = b2
  generalize (s.map up == ([69, 88, 80, 85, 78, 71, 69] : List UInt8)) = b3
  generalize (s.map up == ([83, 69, 76, 69, 67, 84] : List UInt8)) = b4
  generalize (s.map up == ([65, 80, 80, 69, 78, 68] : List UInt8)) = b5
  generalize (s.map up == ([70, 69, 84, 67, 72] : List UInt8)) = b6
  generalize (s.map up == ([83, 84, 79, 82, 69] : List UInt8)) = b7
  cases b0 with
  | true => exact ⟨1, rfl, rfl⟩
  | false =>
   cases b1 with
   | true => exact ⟨2, rfl, rfl⟩
   | false =>
    cases b2 with
    | true => exact ⟨3, rfl, rfl⟩
    | false =>
     cases b3 with
     | true => exact ⟨4, rfl, rfl⟩
     | false =>
      cases b4 with
      | true => exact ⟨5, rfl, rfl⟩
      | false =>
       cases b5 with
       | true => exact ⟨6, rfl, rfl⟩
       | false =>
        cases b6 with
        | true => exact ⟨7, rfl, rfl⟩
        | false =>
         cases b7 with
         | true => exact ⟨8, rfl, rfl⟩
         | false =>
          exact ⟨0, rfl, rfl⟩
theorem item_says (s : List UInt8) (hs : s.length ≤ 300) : ∃ n : Int, F_command_Item 1000 s = some (n, decide (0 < n), ()) ∧ F_ref07_Item 1000 s = some (n, ()) := by
  unfold F_command_Item F_ref07_Item
  rw [upper_says s hs]
  simp only [Option.bind_some]
  unfold F_slices_Index_string_string
  rw [show F_slices_Index_string_string_l8 1000 1000 [([70, 76, 65, 71, 83] : List UInt8), ([85, 73, 68] : List UInt8), ([82, 70, 67, 56, 50, 50, 46, 83, 73, 90, 69] : List UInt8), ([66, 79, 68, 89, 46, 80, 69, 69, 75, 91, 93] : List UInt8), ([66, 79, 68, 89, 91, 93] : List UInt8)] (s.map up) (((List.length ([([70, 76, 65, 71, 83] : List UInt8), ([85, 73, 68] : List UInt8), ([82, 70, 67, 56, 50, 50, 46, 83, 73, 90, 69] : List UInt8), ([66, 79, 68, 89, 46, 80, 69, 69, 75, 91, 93] : List UInt8), ([66, 79, 68, 89, 91, 93] : List UInt8)] : List (List UInt8))) : Nat) : Int) 0 = _ from ix_items (s.map up), r_item s _ (rupper_says s hs)]
  generalize (s.map up == ([70, 76, 65, 71, 83] : List UInt8)) = b0
  generalize (s.map up == ([85, 73, 68] : List UInt8)) = b1
  generalize (s.map up == ([82, 70, 67, 56, 50, 50, 46, 83, 73, 90, 69] : List UInt8)) = b2
  generalize (s.map up == ([66, 79, 68, 89, 46, 80, 69, 69, 75, 91, 93] : List UInt8)) = b3
  generalize (s.map up == ([66, 79, 68, 89, 91, 93] : List UInt8)) = b4
  cases b0 with
  | true => exact ⟨1, rfl, rfl⟩
  | false =>
   cases b1 with
   | true => exact ⟨2, rfl, rfl⟩
   | false =>
    cases b2 with
    | true => exact ⟨4, rfl, rfl⟩
    | false =>
     cases b3 with
     | true => exact ⟨8, rfl, rfl⟩
     | false =>
      cases b4 with
      | true => exact ⟨16, rfl, rfl⟩
      | false =>
       exact ⟨0, rfl, rfl⟩
theorem law0 (k : Int) (s : List UInt8) : F_law07_CommandNames 1000 k s = some (true, ()) := by
  unfold F_law07_CommandNames
  by_cases h1 : (300 : Int) < ((List.length s : Nat) : Int)
  · rw [decide_eq_true h1]; rfl
  · rw [decide_eq_false h1, cond_false]
    have hs : List.length s ≤ 300 := by omega
    obtain ⟨n, e1, e2⟩ := kind_says s hs
    obtain ⟨i, e3, e4⟩ := item_says s hs
    simp only [e1, e3, Option.bind_some]
    have key : ∃ v m b, F_command_Verb 1000 k = some (v, ()) ∧ F_ref07_Verb 1000 k = some (v, ()) ∧ F_command_Kind 1000 v = some (m, b, ()) ∧ b = decide (1 ≤ (k : Int) ∧ (k : Int) ≤ 8) ∧ (b = true → m = k) := by
      have hk : (k : Int) < 1 ∨ (k : Int) = 1 ∨ (k : Int) = 2 ∨ (k : Int) = 3 ∨ (k : Int) = 4 ∨ (k : Int) = 5 ∨ (k : Int) = 6 ∨ (k : Int) = 7 ∨ (k : Int) = 8 ∨ (8 : Int) < k := by omega
      rcases hk with h | h | h | h | h | h | h | h | h | h
      · refine ⟨[], 0, false, ?_, ?_, by kernel_rfl, by rw [decide_eq_false]; omega, fun h => by cases h⟩
        · unfold F_command_Verb; rw [decide_eq_false (show ¬ (1 : Int) ≤ k by omega)]; rfl
        · unfold F_ref07_Verb; rw [decide_eq_true h]; rfl
      · cases h; exact ⟨_, 1, true, rfl, rfl, by kernel_rfl, rfl, fun _ => rfl⟩
      · cases h; exact ⟨_, 2, true, rfl, rfl, by kernel_rfl, rfl, fun _ => rfl⟩
      · cases h; exact ⟨_, 3, true, rfl, rfl, by kernel_rfl, rfl, fun _ => rfl⟩
      · cases h; exact ⟨_, 4, true, rfl, rfl, by kernel_rfl, rfl, fun _ => rfl⟩
      · cases h; exact ⟨_, 5, true, rfl, rfl, by kernel_rfl, rfl, fun _ => rfl⟩
      · cases h; exact ⟨_, 6, true, rfl, rfl, by kernel_rfl, rfl, fun _ => rfl⟩
      · cases h; exact ⟨_, 7, true, rfl, rfl, by kernel_rfl, rfl, fun _ => rfl⟩
      · cases h; exact ⟨_, 8, true, rfl, rfl, by kernel_rfl, rfl, fun _ => rfl⟩
      · refine ⟨[], 0, false, ?_, ?_, by kernel_rfl, by rw [decide_eq_false]; omega, fun h => by cases h⟩
        · unfold F_command_Verb; rw [decide_eq_true (show (1 : Int) ≤ k by omega), decide_eq_false (show ¬ k ≤ (8 : Int) by omega)]; rfl
        · unfold F_ref07_Verb; rw [decide_eq_false (show ¬ k < (1 : Int) by omega), decide_eq_true h]; rfl
    obtain ⟨v, m, b, k1, k2, k3, k4, k5⟩ := key
    simp only [k1, k2, k3, e2, e4, Option.bind_some, cond_true, beq_self_eq_true]
    by_cases h2 : (1 : Int) ≤ k
    · rw [decide_eq_true h2, cond_true]
      by_cases h3 : (k : Int) ≤ 8
      · have hb : b = true := k4.trans (decide_eq_true ⟨h2, h3⟩)
        subst hb
        rw [decide_eq_true h3, k5 rfl]
        simp
      · have hb : b = false := k4.trans (decide_eq_false fun h => h3 h.2)
        subst hb
        rw [decide_eq_false h3]; rfl
    · have hb : b = false := k4.trans (decide_eq_false fun h => h2 h.1)
      subst hb
      rw [decide_eq_false h2]; rfl
/-- THE LAW. -/
theorem law (x : El (tupU [.int .i64, .str])) (hw : Wf (tupU [.int .i64, .str]) x) : ∃ N, F_law07_CommandNames N x.1 x.2.1 = some (true, ()) := ⟨1000, law0 x.1 x.2.1⟩
end Go.Proofs.YtnoodkgfjdajgaaGreatDoor
