/- The machines and the plain laws, part 7. -/
import Derived.Test.YtofnacdgdlbfmaaGreatDoorB6
set_option linter.unusedVariables false
set_option linter.unusedSimpArgs false
set_option maxRecDepth 100000
namespace Go.Proofs.Model
open Go Go.Gx Go.Mx Go.Sx
theorem zsJ (s : List UInt8) : (([58] : List UInt8) == s) = true ↔ s = [58] := by rw [beq_iff_eq]; exact eq_comm
theorem zuq (s : List UInt8) : qj 3000 s 58 = some (jm 58 s 0, ()) := rfl
theorem zaA {a b : List UInt8} (oa ob : Option (Int × Bool × Unit)) (ha : zjS a oa) (hb : zjS b ob) (R : Type) (f : Int × Int -> Option R) (g : Option R) :
  (Option.bind oa fun y1 => Option.bind ob fun y2 => cond (!y1.2.1) g (cond (!y2.2.1) g (f (y1.1, y2.1)))) = match zga a, zga b with
   | some x, some y => f (((x : Nat) : Int), ((y : Nat) : Int))
   | _, _ => g := by
 unfold zjS at ha hb
 cases h1 : zga a with
 | none =>
  rw [h1] at ha
  obtain ⟨x, rfl⟩ := ha
  cases h2 : zga b with
  | none => rw [h2] at hb; obtain ⟨y, rfl⟩ := hb; rfl
  | some v => rw [h2] at hb; subst hb; rfl
 | some u =>
  rw [h1] at ha
  subst ha
  cases h2 : zga b with
  | none => rw [h2] at hb; obtain ⟨y, rfl⟩ := hb; rfl
  | some v => rw [h2] at hb; subst hb; rfl
theorem zr2 (parts : List (List UInt8)) (hp : parts.length <= 2001) (hq : ∀ p ∈ parts, p.length <= 2000) : ∀ (m i : Nat) (out : List (Int × Int)), i <= parts.length -> out.length <= i -> parts.length < m + i ->
  match qS (parts.drop i) with
  | some l => zC 3000 m ((parts.length : Nat) : Int) ((i : Nat) : Int) parts out = some (Sum.inr (parts, out ++ l))
  | none => ∃ o, zC 3000 m ((parts.length : Nat) : Int) ((i : Nat) : Int) parts out = some (Sum.inl (parts, o))
 | 0, i, out, h, ho, h' => by omega
 | m + 1, i, out, h, ho, h' => by
  unfold zC kZ
  by_cases hi : i < parts.length
  ·have hs : parts[i].length <= 2000 := hq _ (List.getElem_mem hi)
   have w1 : IntKind.wrap .i64 (((i : Nat) : Int) + 1) = ((i + 1 : Nat) : Int) := by rw [wri (by omega) (by omega)]; omega
   simp only [zhE hi, cond_true, zX hi, Int.toNat_natCast, jK (u := .str) hi, w1, zbB (show out.length + 1 <= 200000 by omega), zuq, zfT, Option.bind_some]
   rw [drop_one hi]
   unfold qS
   generalize parts[i] = s at hs
   have ihs := fun r : Int × Int => zr2 parts hp hq m (i + 1) (out ++ [r]) (by omega) (by simp; omega) (by omega)
   have fin : ∀ (o : Option (List (List UInt8) × List (Int × Int) ⊕ List (List UInt8) × List (Int × Int))), (o = match kD s with
     | some r => zC 3000 m ((parts.length : Nat) : Int) ((i + 1 : Nat) : Int) parts (out ++ [r])
     | none => some (Sum.inl (parts, out))) -> match (match kD s, qS (parts.drop (i + 1)) with
      | some r, some t => some (r :: t)
      | _, _ => none) with
     | some l => o = some (Sum.inr (parts, out ++ l))
     | none => ∃ o', o = some (Sum.inl (parts, o')) := by
    intro o ho
    subst ho
    cases hr : kD s with
    | none => exact ⟨_, rfl⟩
    | some r =>
     have ih := ihs r
     cases ht : qS (parts.drop (i + 1)) with
     | none => rw [ht] at ih; exact ih
     | some t => rw [ht] at ih; simp only at ih |-; rw [ih, List.append_assoc]; rfl
   by_cases h58 : s = [58]
   ·subst h58
    simp only [show (([58] : List UInt8) == [58]) = true from rfl, cond_true]
    have hb1 : jw (0 : Int) (0 : Int) (List.length ([58] : List UInt8)) = true := rfl
    have hb2 : jw (1 : Int) (((List.length ([58] : List UInt8)) : Nat) : Int) (List.length ([58] : List UInt8)) = true := rfl
    simp only [hb1, hb2, cond_true]
    refine fin _ ?_
    refine (zaA _ _ (zaU (slice [58] 0 0) (by simp [slice])) (zaU (slice [58] 1 ([58] : List UInt8).length) (by simp [slice])) _ (fun r => zC 3000 m ((parts.length : Nat) : Int) ((i + 1 : Nat) : Int) parts (out ++ [r])) (some (Sum.inl (parts, out)))).trans ?_
    rfl
   ·have e58 : (([58] : List UInt8) == s) = false := by
     cases e : ([58] : List UInt8) == s with
     | false => rfl
     | true => exact absurd ((zsJ s).1 e) h58
    simp only [e58, cond_false]
    cases hpos : posOf 58 s with
    | none =>
     simp only [show decide ((0 : Int) <= -1) = false from rfl, cond_false]
     refine fin _ ?_
     refine (zaA _ _ (zaU s hs) (zaU s hs) _ (fun r => zC 3000 m ((parts.length : Nat) : Int) ((i + 1 : Nat) : Int) parts (out ++ [r])) (some (Sum.inl (parts, out)))).trans ?_
     unfold kD
     rw [hpos]
     cases zga s <;> rfl
    | some k =>
     obtain ⟨q1, q2, q3⟩ := qZ hpos
     simp only [Nat.zero_add]
     have d0 : decide ((0 : Int) <= ((k : Nat) : Int)) = true := by simp
     have w2 : IntKind.wrap .i64 (((k : Nat) : Int) + 1) = ((k + 1 : Nat) : Int) := by rw [wri (by omega) (by omega)]; omega
     have hb1 : jw (0 : Int) ((k : Nat) : Int) s.length = true := by
      have := qT (a := 0) (b := k) (n := s.length) (by omega) (by omega)
      rwa [show ((0 : Nat) : Int) = (0 : Int) from rfl] at this
     have hb2 : jw ((k + 1 : Nat) : Int) ((s.length : Nat) : Int) s.length = true := qT (by omega) (by omega)
     simp only [d0, cond_true, w2, hb1, hb2, Int.toNat_natCast, jz, xu]
     refine fin _ ?_
     refine (zaA _ _ (zaU (s.take k) (by rw [List.length_take]; omega)) (zaU (s.drop (k + 1)) (by rw [List.length_drop]; omega)) _ (fun r => zC 3000 m ((parts.length : Nat) : Int) ((i + 1 : Nat) : Int) parts (out ++ [r])) (some (Sum.inl (parts, out)))).trans ?_
     unfold kD
     rw [hpos]
     simp only
     cases zga (s.take k) with
     | none => rfl
     | some a => cases zga (s.drop (k + 1)) <;> rfl
  ·simp only [zhF hi, cond_false]
   rw [List.drop_eq_nil_of_le (by omega)]
   simp only [qS, List.append_nil]
theorem zoQ (s : List UInt8) (hs : s.length <= 2000) : jy 3000 s = kA s := by
 unfold jy kA
 have hb : Nat.ble s.length zhs = true := by rw [Nat.ble_eq]; unfold zhs; omega
 obtain ⟨l1, l2, l3⟩ := jN 44 s
 have := zr2 (qc 44 s) (by omega) (fun p hp => by have := l3 p hp; omega) 3000 0 [] (by omega) (by simp) (by omega)
 rw [show ((0 : Nat) : Int) = (0 : Int) from rfl, List.drop_zero] at this
 simp only [hb, cond_true, zfA]
 cases hr : qS (qc 44 s) with
 | some l => rw [hr] at this; simp only at this; rw [this]; rfl
 | none => rw [hr] at this; obtain ⟨o, h⟩ := this; rw [h]; rfl
theorem zrQ (parts : List (List UInt8)) (hp : parts.length <= 2001) (hq : ∀ p ∈ parts, p.length <= 2000) : ∀ (m i : Nat) (out : List (Int × Int)), i <= parts.length -> out.length <= i -> parts.length < m + i ->
  match qS (parts.drop i) with
  | some l => zF 3000 m parts ((i : Nat) : Int) out = some (Sum.inr (out ++ l))
  | none => ∃ o, zF 3000 m parts ((i : Nat) : Int) out = some (Sum.inl o)
 | 0, i, out, h, ho, h' => by omega
 | m + 1, i, out, h, ho, h' => by
  unfold zF xJ
  by_cases hi : i < parts.length
  ·have hs : parts[i].length <= 2000 := hq _ (List.getElem_mem hi)
   have w1 : IntKind.wrap .i64 (((i : Nat) : Int) + 1) = ((i + 1 : Nat) : Int) := by rw [wri (by omega) (by omega)]; omega
   simp only [zhE hi, cond_true, zX hi, Int.toNat_natCast, jK (u := .str) hi, w1, zbB (show out.length + 1 <= 200000 by omega)]
   rw [drop_one hi]
   unfold qS
   generalize parts[i] = s at hs
   rw [zpx s hs 58]
   simp only [Option.bind_some]
   have ihs := fun r : Int × Int => zrQ parts hp hq m (i + 1) (out ++ [r]) (by omega) (by simp; omega) (by omega)
   have fin : ∀ (o : Option (List (Int × Int) ⊕ List (Int × Int))), (o = match kD s with
     | some r => zF 3000 m parts ((i + 1 : Nat) : Int) (out ++ [r])
     | none => some (Sum.inl out)) -> match (match kD s, qS (parts.drop (i + 1)) with
      | some r, some t => some (r :: t)
      | _, _ => none) with
     | some l => o = some (Sum.inr (out ++ l))
     | none => ∃ o', o = some (Sum.inl o') := by
    intro o ho
    subst ho
    cases hr : kD s with
    | none => exact ⟨_, rfl⟩
    | some r =>
     have ih := ihs r
     cases ht : qS (parts.drop (i + 1)) with
     | none => rw [ht] at ih; exact ih
     | some t => rw [ht] at ih; simp only at ih |-; rw [ih, List.append_assoc]; rfl
   cases hpos : posOf 58 s with
   | none =>
    rw [xG hpos]
    have c1 : decide ((2 : Int) < (((List.length [s]) : Nat) : Int)) = false := rfl
    have c2 : inb (0 : Int) (List.length [s]) = true := rfl
    have c3 : IntKind.wrap .i64 ((((List.length [s]) : Nat) : Int) - (1 : Int)) = 0 := rfl
    simp only [c1, cond_false, c2, cond_true, c3]
    refine fin _ ?_
    refine (zaA _ _ (ze8 s) (ze8 s) _ (fun r => zF 3000 m parts ((i + 1 : Nat) : Int) (out ++ [r])) (some (Sum.inl out))).trans ?_
    unfold kD
    rw [hpos]
    cases zga s <;> rfl
   | some k =>
    obtain ⟨q1, q2, q3⟩ := qZ hpos
    rw [za9 hpos]
    cases hpos2 : posOf 58 (s.drop (k + 1)) with
    | none =>
     rw [xG hpos2]
     have c1 : decide ((2 : Int) < (((List.length [s.take k, s.drop (k + 1)]) : Nat) : Int)) = false := rfl
     have c2 : inb (0 : Int) (List.length [s.take k, s.drop (k + 1)]) = true := rfl
     have c3 : IntKind.wrap .i64 ((((List.length [s.take k, s.drop (k + 1)]) : Nat) : Int) - (1 : Int)) = 1 := rfl
     have c4 : inb (1 : Int) (List.length [s.take k, s.drop (k + 1)]) = true := rfl
     simp only [c1, cond_false, c2, cond_true, c3, c4]
     refine fin _ ?_
     refine (zaA _ _ (ze8 (s.take k)) (ze8 (s.drop (k + 1))) _ (fun r => zF 3000 m parts ((i + 1 : Nat) : Int) (out ++ [r])) (some (Sum.inl out))).trans ?_
     unfold kD
     rw [hpos]
     simp only
     cases zga (s.take k) with
     | none => rfl
     | some a => cases zga (s.drop (k + 1)) <;> rfl
    | some k2 =>
     rw [za9 hpos2]
     have hlen := (jN 58 ((s.drop (k + 1)).drop (k2 + 1))).1
     have c1 : decide ((2 : Int) < (((List.length (s.take k :: (s.drop (k + 1)).take k2 :: qc 58 ((s.drop (k + 1)).drop (k2 + 1)))) : Nat) : Int)) = true := by
      simp only [List.length_cons, decide_eq_true_eq]; omega
     simp only [c1, cond_true]
     refine fin _ ?_
     have hbad : kD s = none := by
      unfold kD
      rw [hpos]
      simp only
      have : zga (s.drop (k + 1)) = none := by
       unfold zga
       obtain ⟨p1, p2, p3⟩ := qZ hpos2
       have hne : s.drop (k + 1) ≠ [42] := by
        intro e
        rw [e] at p2 p1
        have : k2 = 0 := by simp at p1; omega
        subst this
        simp at p2
       rw [if_neg hne]
       have hv : zgc 0 (s.drop (k + 1)) = none := by
        have key : ∀ (l : List UInt8) (acc j : Nat), l[j]? = some 58 -> zgc acc l = none := by
         intro l
         induction l with
         | nil => intro acc j hj; simp at hj
         | cons c r ih =>
          intro acc j hj
          unfold zgc
          cases j with
          | zero =>
           simp only [List.getElem?_cons_zero, Option.some.injEq] at hj
           subst hj
           rfl
          | succ j =>
           split
           ·exact ih _ j (by simpa using hj)
           ·rfl
        exact key _ 0 k2 p2
       unfold zdH
       rw [hv]
      rw [this]
      cases zga (s.take k) <;> rfl
     rw [hbad]
  ·simp only [zhF hi, cond_false]
   rw [List.drop_eq_nil_of_le (by omega)]
   simp only [qS, List.append_nil]
theorem zp0 (s : List UInt8) (hs : s.length <= 2000) : wB 3000 s = kA s := by
 unfold wB kA
 rw [zpx s hs 44]
 obtain ⟨l1, l2, l3⟩ := jN 44 s
 have := zrQ (qc 44 s) (by omega) (fun p hp => by have := l3 p hp; omega) 3000 0 [] (by omega) (by simp) (by omega)
 rw [show ((0 : Nat) : Int) = (0 : Int) from rfl, List.drop_zero] at this
 simp only [Option.bind_some]
 cases hr : qS (qc 44 s) with
 | some l => rw [hr] at this; simp only at this; rw [this]; rfl
 | none => rw [hr] at this; obtain ⟨o, h⟩ := this; rw [h]; rfl
def flA : List UInt8 := [92, 65, 78, 83, 87, 69, 82, 69, 68]
def flF : List UInt8 := [92, 70, 76, 65, 71, 71, 69, 68]
def flD : List UInt8 := [92, 68, 69, 76, 69, 84, 69, 68]
def flE : List UInt8 := [92, 83, 69, 69, 78]
def flR : List UInt8 := [92, 68, 82, 65, 70, 84]
def flT : List (List UInt8 × UInt8) := [(flA, 1), (flF, 2), (flD, 4), (flE, 8), (flR, 16)]
def flS (s : List UInt8) : Option Nat :=
 if s.map up = flA then some 1 else if s.map up = flF then some 2 else if s.map up = flD then some 4 else if s.map up = flE then some 8 else if s.map up = flR then some 16 else none
theorem zmi {s : List UInt8} {n : Nat} (h : flS s = some n) : 0 < n /\ n < 32 := by
 unfold flS at h
 split at h
 ·cases h; omega
 ·split at h
  ·cases h; omega
  ·split at h
   ·cases h; omega
   ·split at h
    ·cases h; omega
    ·split at h
     ·cases h; omega
     ·cases h
theorem zse (u : List UInt8) : zaQ .str .u8 flT u = if u = flA then some 1 else if u = flF then some 2 else if u = flD then some 4 else if u = flE then some 8 else if u = flR then some 16 else none := by
 show cond (u == flA) (some 1) (cond (u == flF) (some 2) (cond (u == flD) (some 4) (cond (u == flE) (some 8) (cond (u == flR) (some 16) none)))) = _
 have h : ∀ (x : List UInt8) (a b : Option UInt8), cond (u == x) a b = if u = x then a else b := fun x a b => by
  cases e : u == x with
  | true => rw [beq_iff_eq] at e; rw [if_pos e]; rfl
  | false => rw [if_neg (by simpa using e)]; rfl
 simp only [h]
theorem zsi (s : List UInt8) : zaQ .str .u8 flT (s.map up) = (flS s).map UInt8.ofNat := by
 rw [zse]
 unfold flS
 split
 ·rfl
 ·split
  ·rfl
  ·split
   ·rfl
   ·split
    ·rfl
    ·split <;> rfl
theorem za1 (s : List UInt8) (hs : s.length <= 2000) (h0 : s ≠ []) (h32 : posOf 32 s = none) : jL 3000 ((([40] : List UInt8) ++ s) ++ ([41] : List UInt8)) = some (match flS s with
  | some n => (UInt8.ofNat n, true, ())
  | none => (0, false, ())) := by
 have e1 : jn 3000 ((([40] : List UInt8) ++ s) ++ ([41] : List UInt8)) ([40] : List UInt8) = some (s ++ [41], true, ()) := by
  unfold jn jq jj
  have hl : (([40] ++ s) ++ [41] : List UInt8).length = s.length + 2 := by simp
  have c1 : decide ((((List.length ([40] : List UInt8)) : Nat) : Int) <= (((List.length ((([40] : List UInt8) ++ s) ++ ([41] : List UInt8))) : Nat) : Int)) = true := by rw [hl]; simp; omega
  have c2 : jw (0 : Int) (((List.length ([40] : List UInt8)) : Nat) : Int) (List.length ((([40] : List UInt8) ++ s) ++ ([41] : List UInt8))) = true := by
   have := qT (a := 0) (b := 1) (n := (([40] ++ s) ++ [41] : List UInt8).length) (by omega) (by rw [hl]; omega)
   exact this
  have c3 : jw (((List.length ([40] : List UInt8)) : Nat) : Int) (((List.length ((([40] : List UInt8) ++ s) ++ ([41] : List UInt8))) : Nat) : Int) (List.length ((([40] : List UInt8) ++ s) ++ ([41] : List UInt8))) = true := qT (by rw [hl]; simp) (Nat.le_refl _)
  simp only [c1, c2, c3, cond_true, Option.bind_some, Int.toNat_natCast, xu]
  rfl
 have e2 : zS 3000 (s ++ [41]) ([41] : List UInt8) = some (s, true, ()) := by
  unfold zS qk qh
  have hl : (s ++ [41] : List UInt8).length = s.length + 1 := by simp
  have w : IntKind.wrap .i64 ((((List.length (s ++ [41] : List UInt8)) : Nat) : Int) - (((List.length ([41] : List UInt8)) : Nat) : Int)) = ((s.length : Nat) : Int) := by rw [hl, wri (by simp) (by simp; omega)]; simp
  have c1 : decide ((((List.length ([41] : List UInt8)) : Nat) : Int) <= (((List.length (s ++ [41] : List UInt8)) : Nat) : Int)) = true := by rw [hl]; simp; omega
  have c2 : jw ((s.length : Nat) : Int) (((List.length (s ++ [41] : List UInt8)) : Nat) : Int) (List.length (s ++ [41] : List UInt8)) = true := qT (by rw [hl]; omega) (Nat.le_refl _)
  have c3 : jw (0 : Int) ((s.length : Nat) : Int) (List.length (s ++ [41] : List UInt8)) = true := by
   have := qT (a := 0) (b := s.length) (n := (s ++ [41] : List UInt8).length) (by omega) (by rw [hl]; omega)
   exact this
  have q1 : (s ++ [41] : List UInt8).drop s.length = [41] := by simp
  have q2 : (s ++ [41] : List UInt8).take s.length = s := by simp
  simp only [w, c1, c2, c3, cond_true, Option.bind_some, Int.toNat_natCast, xu, jz, q1, q2, show (([41] : List UInt8) == [41]) = true from rfl, Bool.not_true, cond_false]
 unfold jL
 have e3 : (s == ([] : List UInt8)) = false := by simpa using h0
 have e4 : zcD 3000 (31 : UInt8) = some ([1, 2, 4, 8, 16], ()) := by kernel_rfl
 have e5 : jv 3000 3000 [1, 2, 4, 8, 16] (((List.length ([1, 2, 4, 8, 16] : List UInt8)) : Nat) : Int) (0 : Int) ([] : List ((List UInt8) × UInt8)) = some flT := by kernel_rfl
 have e6 : Nat.ble (List.length s) zhs = true := by rw [Nat.ble_eq]; unfold zhs; omega
 simp only [e1, e2, Option.bind_some, Bool.not_true, cond_false, e3, e4, e5, e6, cond_true, zfA, xG h32]
 unfold qF wD
 have c1 : decide ((0 : Int) < (((List.length [s]) : Nat) : Int)) = true := rfl
 have c2 : inb (0 : Int) (List.length [s]) = true := rfl
 simp only [c1, c2, cond_true, show nth .str [s] (Int.toNat 0) = s from rfl, zca s (by omega), Option.bind_some, zsi]
 cases flS s with
 | none => rfl
 | some n =>
  simp only [Option.map_some, Option.isSome_some, Bool.not_true, cond_false, Option.getD_some]
  unfold qF wD
  have w1 : IntKind.wrap .i64 ((0 : Int) + 1) = 1 := rfl
  have c3 : decide ((1 : Int) < (((List.length [s]) : Nat) : Int)) = false := rfl
  simp only [w1, c3, cond_false, Option.bind_some, zk]
  rw [show (0 : UInt8) ||| UInt8.ofNat n = UInt8.ofNat n from UInt8.zero_or]
theorem zox (s : List UInt8) (hs : s.length <= 2000) : ky 3000 s = some (match flS s with
  | some n => ((n : Nat) : Int)
  | none => 0, ()) := by
 have hU := qu s hs
 unfold ky
 have s0 : zg 3000 3000 s 1 = cond (flA == s.map up) (some (.inl 1)) (zg 3000 2999 s 2) := by
  rw [show zg 3000 3000 s 1 = (Option.bind (zi 3000 s) fun y => cond (flA == y.1) (some (.inl 1)) (zg 3000 2999 s 2)) from by kernel_rfl, hU]; rfl
 have s1 : zg 3000 2999 s 2 = cond (flF == s.map up) (some (.inl 2)) (zg 3000 2998 s 4) := by
  rw [show zg 3000 2999 s 2 = (Option.bind (zi 3000 s) fun y => cond (flF == y.1) (some (.inl 2)) (zg 3000 2998 s 4)) from by kernel_rfl, hU]; rfl
 have s2 : zg 3000 2998 s 4 = cond (flD == s.map up) (some (.inl 4)) (zg 3000 2997 s 8) := by
  rw [show zg 3000 2998 s 4 = (Option.bind (zi 3000 s) fun y => cond (flD == y.1) (some (.inl 4)) (zg 3000 2997 s 8)) from by kernel_rfl, hU]; rfl
 have s3 : zg 3000 2997 s 8 = cond (flE == s.map up) (some (.inl 8)) (zg 3000 2996 s 16) := by
  rw [show zg 3000 2997 s 8 = (Option.bind (zi 3000 s) fun y => cond (flE == y.1) (some (.inl 8)) (zg 3000 2996 s 16)) from by kernel_rfl, hU]; rfl
 have s4 : zg 3000 2996 s 16 = cond (flR == s.map up) (some (.inl 16)) (zg 3000 2995 s 32) := by
  rw [show zg 3000 2996 s 16 = (Option.bind (zi 3000 s) fun y => cond (flR == y.1) (some (.inl 16)) (zg 3000 2995 s 32)) from by kernel_rfl, hU]; rfl
 rw [s0, s1, s2, s3, s4, show zg 3000 2995 s 32 = some (.inr ()) from by kernel_rfl]
 have h : ∀ (x : List UInt8) (a b : Option (Int ⊕ Unit)), cond (x == s.map up) a b = if s.map up = x then a else b := fun x a b => by
  cases e : x == s.map up with
  | true => rw [beq_iff_eq] at e; rw [if_pos e.symm]; rfl
  | false => rw [if_neg (fun q => by rw [q] at e; simp at e)]; rfl
 simp only [h]
 unfold flS
 split
 ·rfl
 ·split
  ·rfl
  ·split
   ·rfl
   ·split
    ·rfl
    ·split <;> rfl
theorem zI (a k : Int) : za 3000 [a] k = some (k == a, ()) := by
 unfold za qx
 rw [show zE 3000 3000 [a] k (((List.length [a]) : Nat) : Int) 0 = cond (k == a) (some (.inl 0)) (some (.inr ())) from by kernel_rfl]
 cases k == a <;> rfl
theorem zge (a b c k : Int) : za 3000 [a, b, c] k = some (k == a || k == b || k == c, ()) := by
 unfold za qx
 rw [show zE 3000 3000 [a, b, c] k (((List.length [a, b, c]) : Nat) : Int) 0 = cond (k == a) (some (.inl 0)) (cond (k == b) (some (.inl 1)) (cond (k == c) (some (.inl 2)) (some (.inr ())))) from by kernel_rfl]
 cases k == a <;> cases k == b <;> cases k == c <;> rfl
def zby (c : UInt8) : Bool := cond (zfX c) true (c == 93)
theorem zt7 (N : Nat) (c : UInt8) : zK N c = some (zby c, ()) := by
 unfold zK
 rw [zuS]
 simp only [Option.bind_some]
 unfold zby
 cases zfX c <;> rfl
theorem zpY (N : Nat) (s : List UInt8) (hs : s.length <= 100000) : ∀ (m i : Nat), i <= s.length -> s.length < m + i ->
  z6 N m s (s.length : Int) (i : Int) = some (if (s.drop i).all zby = true then Sum.inr () else Sum.inl ())
 | 0, i, h, h' => by omega
 | m + 1, i, h, h' => by
  unfold z6 kG
  by_cases hi : i < s.length
  ·simp only [zhE hi, cond_true, zX hi, Int.toNat_natCast, jK (u := .u8) hi, zt7, Option.bind_some, drop_one hi, List.all_cons]
   cases hc : zby s[i] with
   | true =>
    simp only [Bool.not_true, cond_false, Bool.true_and]
    rw [wri (by omega) (by omega), show ((i : Int) + 1) = ((i + 1 : Nat) : Int) by omega]
    exact zpY N s hs m (i + 1) (by omega) (by omega)
   | false => simp
  ·simp only [zhF hi, cond_false]
   rw [List.drop_eq_nil_of_le (by omega)]
   simp
theorem zpr (N : Nat) (s : List UInt8) (hs : s.length <= 100000) : ∀ (m i : Nat), i <= s.length -> s.length < m + i ->
  zZ N m s (s.length : Int) (i : Int) = some (if (s.drop i).all zby = true then Sum.inr () else Sum.inl ())
 | 0, i, h, h' => by omega
 | m + 1, i, h, h' => by
  unfold zZ kJ
  by_cases hi : i < s.length
  ·simp only [zhE hi, cond_true, zX hi, Int.toNat_natCast, jK (u := .u8) hi, zt7, Option.bind_some, drop_one hi, List.all_cons]
   cases hc : zby s[i] with
   | true =>
    simp only [Bool.not_true, cond_false, Bool.true_and]
    rw [wri (by omega) (by omega), show ((i : Int) + 1) = ((i + 1 : Nat) : Int) by omega]
    exact zpr N s hs m (i + 1) (by omega) (by omega)
   | false => simp
  ·simp only [zhF hi, cond_false]
   rw [List.drop_eq_nil_of_le (by omega)]
   simp
theorem zrR (N : Nat) (s : List UInt8) (hs : s.length <= 100000) (k a : Int) : ∀ (m i : Nat), i <= s.length -> s.length < m + i ->
  z8 N m (i : Int) k s a = some (if (s.drop i).all zby = true then Sum.inr (k, s, a) else Sum.inl (k, s, a))
 | 0, i, h, h' => by omega
 | m + 1, i, h, h' => by
  unfold z8 kC
  by_cases hi : i < s.length
  ·have ih := zrR N s hs k a m (i + 1) (by omega) (by omega)
   simp only [zhE hi, cond_true, zX hi, Int.toNat_natCast, jK (u := .u8) hi, zs9, Option.bind_some, drop_one hi, List.all_cons]
   rw [wri (by omega) (by omega), show ((i : Int) + 1) = ((i + 1 : Nat) : Int) by omega, ih]
   unfold zby
   cases hc : zfX s[i] with
   | true => simp only [Bool.not_true, cond_false, cond_true, Bool.true_and]
   | false =>
    simp only [Bool.not_false, cond_true, cond_false]
    cases h93 : s[i] == (93 : UInt8) with
    | true => simp only [bne, h93, Bool.not_true, cond_false, Bool.true_and]
    | false => simp only [bne, h93, Bool.not_false, cond_true, Bool.false_and, Bool.false_eq_true, if_false]
  ·simp only [zhF hi, cond_false]
   rw [List.drop_eq_nil_of_le (by omega)]
   simp
def zfb (t : Tok) : Bool := if t.1 = 4 then t.2.1.all zby else (t.1 == 5 || t.1 == 6)
theorem zqi (t : Tok) (h : t.2.1.length <= 2000) : wz 3000 t = some (zfb t, ()) := by
 obtain ⟨k, s, a⟩ := t
 unfold wz zfb
 simp only at h |-
 by_cases h4 : k = 4
 ·subst h4
  have := zrR 3000 s (by omega) 4 a 3000 0 (by omega) (by omega)
  rw [show ((0 : Nat) : Int) = (0 : Int) from rfl, List.drop_zero] at this
  simp only [show ((4 : Int) != 4) = false from rfl, cond_false, this, Option.bind_some, if_true]
  cases s.all zby <;> rfl
 ·have : (k != (4 : Int)) = true := by simpa using h4
  simp only [this, cond_true, if_neg h4]
  cases k == (5 : Int) <;> rfl
theorem znY {p : UInt8 -> Bool} {c : UInt8} (hc : p c = false) : ∀ {l : List UInt8}, l.all p = true -> posOf c l = none := by
 intro l h
 cases hp : posOf c l with
 | none => rfl
 | some i =>
  obtain ⟨h1, h2, _⟩ := qZ hp
  have h3 := List.all_eq_true.1 h c (List.mem_of_getElem? h2)
  rw [hc] at h3; cases h3
def z7 (t : Tok) : Prop := (1 <= t.1 /\ t.1 <= 6) /\ t.2.1.length <= 2000 /\ (t.1 = 4 -> t.2.1 ≠ [] /\ posOf 32 t.2.1 = none)
theorem zqn {b : List UInt8} {i n : Nat} {t : Tok} (hb : b.length <= 2000) (hi : i < b.length) (h : ja b i = some (t, n)) : z7 t := by
 unfold ja at h
 rw [List.getElem?_eq_getElem hi] at h
 simp only at h
 unfold z7
 split at h
 ·cases h; simp
 ·split at h
  ·cases h; simp
  ·split at h
   ·cases h; simp
   ·split at h
    ·split at h
     ·rename_i r k hr
      have := zkV _ hr
      rw [List.length_drop] at this
      cases h
      refine ⟨⟨by simp, by simp⟩, by simp only; omega, by simp⟩
     ·cases h
    ·split at h
     ·split at h
      ·cases h
      ·split at h
       ·cases h
       ·split at h
        ·cases h
         refine ⟨⟨by simp, by simp⟩, ?_, by simp⟩
         simp only
         exact Nat.le_trans zb0 hb
        ·cases h
     ·split at h
      ·rename_i hr
       have hle := zgD ql (b.drop i)
       rw [List.length_drop] at hle
       cases h
       refine ⟨⟨by simp, by simp⟩, Nat.le_trans zb0 hb, fun _ => ?_⟩
       have e : slice b i (i + run ql (b.drop i)) = (b.drop i).take (run ql (b.drop i)) := by
        unfold slice; congr 1; omega
       refine ⟨?_, ?_⟩
       ·simp only [e]
        intro h0
        have := congrArg List.length h0
        rw [List.length_take, List.length_drop] at this
        simp at this; omega
       ·simp only [e]
        exact znY (p := ql) (by kernel_rfl) (zfh ql _)
      ·cases h
theorem zcU {b : List UInt8} (hb : b.length <= 2000) : ∀ (f i : Nat) (l : List Tok), i <= b.length -> jH b f i = .inl l ->
  ∃ (p : List Tok) (e : Tok), l = p ++ [e] /\ e.1 = 0 /\ (∀ t ∈ p, z7 t) /\ p.length + i <= b.length
 | 0, i, l, hi, h => by cases h
 | f + 1, i, l, hi, h => by
  unfold jH at h
  cases hn : ja b i with
  | none => rw [hn] at h; cases h
  | some q =>
   obtain ⟨t, n⟩ := q
   rw [hn] at h
   simp only at h
   by_cases hl : b.length <= i
   ·rw [if_pos hl] at h
    cases h
    exact ⟨[], t, rfl, (zss hn).2 hl, (fun _ h => by cases h), by simpa using hi⟩
   ·rw [if_neg hl] at h
    have hnl := zhr (by omega) hn
    cases hr : jH b f n with
    | inr a => rw [hr] at h; cases h
    | inl l' =>
     rw [hr] at h
     cases h
     obtain ⟨p, e, h1, h2, h3, h4⟩ := zcU hb f n l' hnl.2 hr
     refine ⟨t :: p, e, by rw [h1]; rfl, h2, fun u hu => ?_, by simp only [List.length_cons]; omega⟩
     rcases List.mem_cons.1 hu with rfl | hu
     ·exact zqn hb (by omega) hn
     ·exact h3 u hu
def kc (t : Tok) : UInt8 := nth .u8 [101, 115, 40, 41, 119, 113, 108] t.1.toNat
theorem ztJ {t : Tok} (h : z7 t) : (kc t != 115) = !(t.1 == 1) := by
 obtain ⟨k, s, a⟩ := t
 obtain ⟨⟨h1, h2⟩, _⟩ := h
 simp only at h1 h2
 unfold kc
 simp only
 have : k = 1 \/ k = 2 \/ k = 3 \/ k = 4 \/ k = 5 \/ k = 6 := by omega
 rcases this with rfl | rfl | rfl | rfl | rfl | rfl <;> rfl
theorem zpw (l : List Tok) (hl : l.length <= 2000) (hk : ∀ t ∈ l, z7 t) : ∀ (m i : Nat) (out : List UInt8), i <= l.length -> out.length <= i -> l.length < m + i ->
  qG 3000 m l out (i : Int) = some (out ++ (l.drop i).map kc)
 | 0, i, out, h, ho, h' => by omega
 | m + 1, i, out, h, ho, h' => by
  unfold qG zab
  by_cases hi : i < l.length
  ·have hok := hk l[i] (List.getElem_mem hi)
   simp only [zhE hi, cond_true, zX hi, Int.toNat_natCast, jK (u := uS1) hi, drop_one hi, List.map_cons]
   have ⟨k, hk1, hk2, hk3⟩ : ∃ k : Nat, l[i].1 = ((k : Nat) : Int) /\ 1 <= k /\ k <= 6 := ⟨l[i].1.toNat, by have := hok.1; omega, by have := hok.1; omega, by have := hok.1; omega⟩
   have hs : slice ([101, 115, 40, 41, 119, 113, 108] : List UInt8) k (k + 1) = [kc l[i]] := by
    unfold kc
    rw [hk1]
    have : k = 1 \/ k = 2 \/ k = 3 \/ k = 4 \/ k = 5 \/ k = 6 := by omega
    rcases this with rfl | rfl | rfl | rfl | rfl | rfl <;> rfl
   have hb := qT (a := k) (b := k + 1) (n := 7) (by omega) (by omega)
   have hw : IntKind.wrap .i64 (((k : Nat) : Int) + 1) = ((k + 1 : Nat) : Int) := by rw [wri (by omega) (by omega)]; rfl
   simp only [hk1, hw, hb, cond_true, Int.toNat_natCast, hs]
   have hd : decide (List.length out + List.length [kc l[i]] < 4611686018427387904) = true := by simp; omega
   rw [hd, cond_true, wri (by omega) (by omega), show ((i : Int) + 1) = ((i + 1 : Nat) : Int) by omega, zpw l hl hk m (i + 1) (out ++ [kc l[i]]) (by omega) (by simp; omega) (by omega), List.append_assoc]
   rfl
  ·simp only [zhF hi, cond_false]
   rw [List.drop_eq_nil_of_le (by omega)]
   simp
theorem zlJ (l : List Tok) (hl : l.length <= 2000) (hk : ∀ t ∈ l, z7 t) : k8 3000 l = some (l.map kc, ()) := by
 unfold k8
 have := zpw l hl hk 3000 0 [] (by omega) (by simp) (by omega)
 rw [show ((0 : Nat) : Int) = (0 : Int) from rfl, List.drop_zero, List.nil_append] at this
 rw [this]; rfl
def kK (s : List UInt8) : Int := match qP 3000 s with
 | some (n, _) => n
 | none => 0
def kr (s : List UInt8) : Int := match qM 3000 s with
 | some (n, _) => n
 | none => 0
theorem znl (s : List UInt8) (hs : s.length <= 2000) : jW 3000 s = some (kK s, decide (0 < kK s), ()) := by
 obtain ⟨n, h1, h2, _⟩ := zfU s hs
 unfold kK
 rw [h2, h1]
theorem zoF (s : List UInt8) (hs : s.length <= 2000) : qP 3000 s = some (kK s, ()) := by
 obtain ⟨n, h1, h2, _⟩ := zfU s hs
 unfold kK
 rw [h2]
theorem zbU (s : List UInt8) (hs : s.length <= 2000) : jx 3000 s = some (kr s, decide (0 < kr s), ()) := by
 obtain ⟨n, h1, h2, _⟩ := zfL s hs
 unfold kr
 rw [h2, h1]
theorem zoM (s : List UInt8) (hs : s.length <= 2000) : qM 3000 s = some (kr s, ()) := by
 obtain ⟨n, h1, h2, _⟩ := zfL s hs
 unfold kr
 rw [h2]
theorem zht (s : List UInt8) (hs : s.length <= 2000) : 0 <= kK s /\ kK s <= 8 := by
 obtain ⟨n, h1, h2, h3⟩ := zfU s hs
 unfold kK
 rw [h2]; exact h3
theorem zhf (s : List UInt8) (hs : s.length <= 2000) : 0 <= kr s /\ kr s <= 16 := by
 obtain ⟨n, h1, h2, h3⟩ := zfL s hs
 unfold kr
 rw [h2]; exact h3
def zjN (s : List UInt8) : Int := match flS s with
 | some n => ((n : Nat) : Int)
 | none => 0
def vW (items : Bool) (s : List UInt8) : Int := cond items (kr s) (zjN s)
def zq {A : Type} (f : List UInt8 -> Option A) (op : A -> A -> A) : A -> List Tok -> Option A
 | _, [] => none
 | a, [t] => if t.1 = 4 then (f t.2.1).map (op a) else none
 | a, t :: s :: r => if t.1 = 4 then (match f t.2.1 with
  | none => none
  | some x => if s.1 = 1 then zq f op (op a x) r else none) else none
def fW (items : Bool) (s : List UInt8) : Option Int := if vW items s = 0 then none else some (vW items s)
def orI (a b : Int) : Int := k9 .or .i64 a b
def WR (o : Option (Int × Bool × Unit)) (s : Option Int) : Prop := match s with
 | some x => o = some (x, true, ())
 | none => ∃ v, o = some (v, false, ())
theorem znV (s : List UInt8) (hs : s.length <= 2000) : ky 3000 s = some (zjN s, ()) := zox s hs
theorem zn6 (items : Bool) (l : List Tok) (hl : l.length <= 2000) (hk : ∀ t ∈ l, z7 t) : ∀ (m i : Nat) (acc : Int), i <= l.length -> i % 2 = 0 -> l.length < m + i ->
  match zq (fW items) orI acc (l.drop i) with
  | some x => zG 3000 m l items acc (i : Int) = some (.inr (l, x)) /\ l.length % 2 = 1
  | none => zG 3000 m l items acc (i : Int) = some (.inl ()) \/ ∃ v, zG 3000 m l items acc (i : Int) = some (.inr (l, v)) /\ l.length % 2 = 0
 | 0, i, acc, h, hp, h' => by omega
 | m + 1, i, acc, h, hp, h' => by
  unfold zG j4
  by_cases hi : i < l.length
  ·have hok := hk l[i] (List.getElem_mem hi)
   have hm : (Int.tmod ((i : Nat) : Int) 2 == 1) = false := by
    rw [show Int.tmod ((i : Nat) : Int) 2 = ((i % 2 : Nat) : Int) from rfl, hp]; rfl
   have hw : IntKind.wrap .i64 (((i : Nat) : Int) + 1) = ((i + 1 : Nat) : Int) := by rw [wri (by omega) (by omega)]; rfl
   simp only [zhE hi, cond_true, zX hi, Int.toNat_natCast, jK (u := uS1) hi, hm, cond_false, hw, znV _ hok.2.1, zoM _ hok.2.1, Option.bind_some]
   rw [drop_one hi]
   have hval : ∀ (R : Type) (a : Option R) (g : Int -> Option R), (cond items (cond (kr l[i].2.1 == 0) a (g (kr l[i].2.1))) (cond (zjN l[i].2.1 == 0) a (g (zjN l[i].2.1)))) = cond (vW items l[i].2.1 == 0) a (g (vW items l[i].2.1)) := by
    intro R a g; cases items <;> rfl
   rw [hval _ _ fun v => zG 3000 m l items (k9 .or .i64 acc v) ((i + 1 : Nat) : Int)]
   by_cases h4 : l[i].1 = 4
   ·have e4 : (l[i].1 == (4 : Int)) = true := by rw [beq_iff_eq]; exact h4
    rw [e4, cond_true]
    by_cases h0 : vW items l[i].2.1 = 0
    ·have e0 : (vW items l[i].2.1 == 0) = true := by rw [beq_iff_eq]; exact h0
     rw [e0, cond_true]
     have : zq (fW items) orI acc (l[i] :: l.drop (i + 1)) = none := by
      cases l.drop (i + 1) with
      | nil => simp only [zq, if_pos h4, fW, if_pos h0, Option.map_none]
      | cons s r => simp only [zq, if_pos h4, fW, if_pos h0]
     rw [this]; exact .inl rfl
    ·have e0 : (vW items l[i].2.1 == 0) = false := by simpa using h0
     rw [e0, cond_false]
     cases m with
     | zero => omega
     | succ m =>
      unfold zG j4
      by_cases hj : i + 1 < l.length
      ·have hm2 : (Int.tmod ((i + 1 : Nat) : Int) 2 == 1) = true := by
        rw [show Int.tmod ((i + 1 : Nat) : Int) 2 = (((i + 1) % 2 : Nat) : Int) from rfl, show (i + 1) % 2 = 1 by omega]; rfl
       have hw2 : IntKind.wrap .i64 (((i + 1 : Nat) : Int) + 1) = ((i + 2 : Nat) : Int) := by rw [wri (by omega) (by omega)]; rfl
       simp only [zhE hj, cond_true, zX hj, Int.toNat_natCast, jK (u := uS1) hj, hm2, hw2]
       rw [drop_one hj]
       have hs : zq (fW items) orI acc (l[i] :: l[i + 1] :: l.drop (i + 1 + 1)) = if l[i + 1].1 = 1 then zq (fW items) orI (orI acc (vW items l[i].2.1)) (l.drop (i + 2)) else none := by
        simp only [zq, if_pos h4, fW, if_neg h0]
       rw [hs]
       by_cases h1 : l[i + 1].1 = 1
       ·have e1 : (l[i + 1].1 != (1 : Int)) = false := by simpa using h1
        rw [if_pos h1, e1, cond_false]
        exact zn6 items l hl hk m (i + 2) _ (by omega) (by omega) (by omega)
       ·have e1 : (l[i + 1].1 != (1 : Int)) = true := by simpa using h1
        rw [if_neg h1, e1, cond_true]
        exact .inl rfl
      ·simp only [zhF hj, cond_false]
       rw [List.drop_eq_nil_of_le (by omega)]
       have hs : zq (fW items) orI acc [l[i]] = some (orI acc (vW items l[i].2.1)) := by
        simp only [zq, if_pos h4, fW, if_neg h0, Option.map_some]
       rw [hs]
       exact ⟨rfl, by omega⟩
   ·have e4 : (l[i].1 == (4 : Int)) = false := by simpa using h4
    rw [e4, cond_false]
    have : zq (fW items) orI acc (l[i] :: l.drop (i + 1)) = none := by
     cases l.drop (i + 1) with
     | nil => simp only [zq, if_neg h4]
     | cons s r => simp only [zq, if_neg h4]
    rw [this]; exact .inl rfl
  ·simp only [zhF hi, cond_false]
   rw [List.drop_eq_nil_of_le (by omega)]
   simp only [zq]
   exact .inr ⟨_, rfl, by omega⟩
theorem zdC (items : Bool) (l : List Tok) (hl : l.length <= 2000) (hk : ∀ t ∈ l, z7 t) : WR (jP 3000 l items) (zq (fW items) orI 0 l) := by
 unfold jP
 have := zn6 items l hl hk 3000 0 0 (by omega) (by omega) (by omega)
 rw [List.drop_zero, show ((0 : Nat) : Int) = (0 : Int) from rfl] at this
 unfold WR
 cases hs : zq (fW items) orI 0 l with
 | some x =>
  rw [hs] at this
  obtain ⟨h1, h2⟩ := this
  simp only [h1, Option.bind_some, zk]
  rw [show Int.tmod ((l.length : Nat) : Int) 2 = ((l.length % 2 : Nat) : Int) from rfl, h2]; rfl
 | none =>
  rw [hs] at this
  rcases this with h1 | ⟨v, h1, h2⟩
  ·simp only [h1, Option.bind_some, zk]; exact ⟨_, rfl⟩
  ·simp only [h1, Option.bind_some, zk]
   rw [show Int.tmod ((l.length : Nat) : Int) 2 = ((l.length % 2 : Nat) : Int) from rfl, h2]; exact ⟨_, rfl⟩
def fP (s : List UInt8) : Option UInt8 := (flS s).map UInt8.ofNat
def orP (a b : UInt8) : UInt8 := a ||| b
theorem zr4 {a b : Nat} (ha : a < 32) (hb : b < 32) : ∃ c : Nat, orI ((a : Nat) : Int) ((b : Nat) : Int) = ((c : Nat) : Int) /\ c < 32 /\ UInt8.ofNat a ||| UInt8.ofNat b = UInt8.ofNat c := by
 have h : ((List.range 32).all fun a => (List.range 32).all fun b => decide (0 <= orI ((a : Nat) : Int) ((b : Nat) : Int)) && (decide ((orI ((a : Nat) : Int) ((b : Nat) : Int)).toNat < 32) && ((UInt8.ofNat a ||| UInt8.ofNat b) == UInt8.ofNat (orI ((a : Nat) : Int) ((b : Nat) : Int)).toNat))) = true := by kernel_rfl
 have h1 := List.all_eq_true.1 (List.all_eq_true.1 h a (List.mem_range.2 ha)) b (List.mem_range.2 hb)
 simp only [Bool.and_eq_true, decide_eq_true_eq, beq_iff_eq] at h1
 exact ⟨_, (Int.toNat_of_nonneg h1.1).symm, h1.2.1, h1.2.2⟩
theorem zhc {s : List UInt8} (h : flS s = none) : fW false s = none /\ fP s = none := by
 have e : vW false s = 0 := by unfold vW zjN; rw [cond_false, h]
 refine ⟨?_, ?_⟩
 ·unfold fW; rw [if_pos e]
 ·unfold fP; rw [h]; rfl
theorem zhC {s : List UInt8} {n : Nat} (h : flS s = some n) : fW false s = some ((n : Nat) : Int) /\ fP s = some (UInt8.ofNat n) := by
 have e : vW false s = ((n : Nat) : Int) := by unfold vW zjN; rw [cond_false, h]
 have := zmi h
 refine ⟨?_, ?_⟩
 ·unfold fW; rw [if_neg (by rw [e]; omega), e]
 ·unfold fP; rw [h]; rfl
theorem zkw : ∀ (l : List Tok) (a : Nat), a < 32 -> ∃ o : Option Nat, (∀ x, o = some x -> x < 32) /\ zq (fW false) orI ((a : Nat) : Int) l = o.map (fun x => ((x : Nat) : Int)) /\ zq fP orP (UInt8.ofNat a) l = o.map UInt8.ofNat
 | [], a, ha => ⟨none, (fun x h => by cases h), rfl, rfl⟩
 | [t], a, ha => by
  by_cases h4 : t.1 = 4
  ·simp only [zq, if_pos h4]
   cases hf : flS t.2.1 with
   | none =>
    rw [(zhc hf).1, (zhc hf).2]
    exact ⟨none, (fun x h => by cases h), rfl, rfl⟩
   | some n =>
    obtain ⟨h1, h2⟩ := zmi hf
    obtain ⟨c, c1, c2, c3⟩ := zr4 ha h2
    rw [(zhC hf).1, (zhC hf).2]
    refine ⟨some c, (fun x h => by cases h; exact c2), ?_, ?_⟩
    ·simp only [Option.map_some, c1]
    ·simp only [Option.map_some, orP, c3]
  ·simp only [zq, if_neg h4]
   exact ⟨none, (fun x h => by cases h), rfl, rfl⟩
 | t :: s :: r, a, ha => by
  by_cases h4 : t.1 = 4
  ·simp only [zq, if_pos h4]
   cases hf : flS t.2.1 with
   | none =>
    rw [(zhc hf).1, (zhc hf).2]
    exact ⟨none, (fun x h => by cases h), rfl, rfl⟩
   | some n =>
    obtain ⟨h1, h2⟩ := zmi hf
    obtain ⟨c, c1, c2, c3⟩ := zr4 ha h2
    rw [(zhC hf).1, (zhC hf).2]
    simp only [c1, orP, c3]
    by_cases hs : s.1 = 1
    ·simp only [if_pos hs]
     exact zkw r c c2
    ·simp only [if_neg hs]
     exact ⟨none, (fun x h => by cases h), rfl, rfl⟩
  ·simp only [zq, if_neg h4]
   exact ⟨none, (fun x h => by cases h), rfl, rfl⟩
theorem zjF {s : List UInt8} (h : kr s = 0) : fW true s = none := by
 unfold fW; rw [if_pos (show vW true s = 0 from h)]
theorem zjp {s : List UInt8} (h : ¬ kr s = 0) : fW true s = some (kr s) := by
 unfold fW; rw [if_neg (show ¬ vW true s = 0 from h)]; rfl
theorem qC {α : Type} (t : α) (r : List α) : inb (0 : Int) (List.length (t :: r)) = true := zX (i := 0) (by simp)
theorem qE (t : Tok) (r : List Tok) : nth uS1 (@List.cons Tok t r) 0 = t := rfl
theorem zt {α : Type} (t : α) (r : List α) : ze (t :: r) 1 = r := by rw [zb9]; rfl
theorem zn {α : Type} (t : α) (r : List α) : zY (1 : Int) (t :: r) = true := zcK (a := 1) (by simp)
theorem zhy (y1 : List UInt8) (y2 : Int) (y3 : List UInt8) (z : Tok) (q : List Tok) (hz : z.1 = 0 \/ z.1 = 3) : ∀ (p : List Tok) (a : UInt8) (m : Nat), (∀ t ∈ p, z7 t /\ t.1 ≠ 3) -> p.length < m ->
  match zq fP orP a p with
  | some x => (z.1 = 3 -> zA 3000 m (p ++ z :: q) y1 y2 y3 a = some (.inr (z :: q, y1, y2, y3, x))) /\ (z.1 ≠ 3 -> ∃ y, zA 3000 m (p ++ z :: q) y1 y2 y3 a = some (.inl y))
  | none => ∃ y, zA 3000 m (p ++ z :: q) y1 y2 y3 a = some (.inl y)
 | _, _, 0, _, h => by omega
 | [], a, m + 1, hp, h => by
  have e4 : (z.1 == (4 : Int)) = false := by rcases hz with e | e <;> rw [e] <;> rfl
  simp only [zq, List.nil_append]
  unfold zA qQ
  simp only [qC, cond_true, zI, qE, Option.bind_some, e4, Bool.not_false]
  exact ⟨_, rfl⟩
 | [t], a, m + 1, hp, h => by
  obtain ⟨hok, hk⟩ := hp t (List.mem_cons_self ..)
  have e1 : (z.1 == (1 : Int)) = false := by rcases hz with e | e <;> rw [e] <;> rfl
  simp only [List.cons_append, List.nil_append]
  have hl1 : decide (List.length ([40] : List UInt8) + List.length (nth uS1 (@List.cons Tok t (z :: q)) 0).2.1 < 4611686018427387904) = true := by
   show decide (List.length ([40] : List UInt8) + List.length t.2.1 < 4611686018427387904) = true
   have := hok.2.1; simp; omega
  have hl2 : decide (List.length (([40] : List UInt8) ++ (nth uS1 (@List.cons Tok t (z :: q)) 0).2.1) + List.length ([41] : List UInt8) < 4611686018427387904) = true := by
   show decide (List.length (([40] : List UInt8) ++ t.2.1) + List.length ([41] : List UInt8) < 4611686018427387904) = true
   have := hok.2.1; simp; omega
  unfold zA qQ
  simp only [qC, cond_true, zI, Option.bind_some, zt, zn, Bool.and_true, hl1, hl2]
  simp only [qE]
  by_cases h4 : t.1 = 4
  ·have e4 : (t.1 == (4 : Int)) = true := by rw [beq_iff_eq]; exact h4
   obtain ⟨h0, h32⟩ := hok.2.2 h4
   have hne : (t.2.1 != ([] : List UInt8)) = true := by simpa using h0
   simp only [e4, Bool.not_true, cond_false, za1 _ hok.2.1 h0 h32, zq, if_pos h4, fP]
   cases hf : flS t.2.1 with
   | none =>
    simp only [Option.bind_some, cond_false, Option.map_none]
    exact ⟨_, rfl⟩
   | some n =>
    simp only [Option.bind_some, cond_true, Option.map_some, hne, Bool.not_true, cond_false, orP]
    by_cases hzk : z.1 = 3
    ·have e5 : (z.1 == (3 : Int)) = true := by rw [beq_iff_eq]; exact hzk
     simp only [e5, cond_true]
     exact ⟨fun _ => (by first | rfl | trivial), fun h => absurd hzk h⟩
    ·have e5 : (z.1 == (3 : Int)) = false := by simpa using hzk
     simp only [e5, cond_false, e1, Bool.not_false, cond_true]
     exact ⟨fun h => absurd h hzk, fun _ => ⟨_, rfl⟩⟩
  ·have e4 : (t.1 == (4 : Int)) = false := by simpa using h4
   simp only [zq, if_neg h4, e4, Bool.not_false, cond_true]
   exact ⟨_, rfl⟩
 | t :: s :: r, a, m + 1, hp, h => by
  obtain ⟨hok, hk⟩ := hp t (List.mem_cons_self ..)
  obtain ⟨hok2, hk2⟩ := hp s (List.mem_cons_of_mem _ (List.mem_cons_self ..))
  have ek : (s.1 == (3 : Int)) = false := by simpa using hk2
  simp only [List.cons_append]
  have hl1 : decide (List.length ([40] : List UInt8) + List.length (nth uS1 (@List.cons Tok t (s :: (r ++ z :: q))) 0).2.1 < 4611686018427387904) = true := by
   show decide (List.length ([40] : List UInt8) + List.length t.2.1 < 4611686018427387904) = true
   have := hok.2.1; simp; omega
  have hl2 : decide (List.length (([40] : List UInt8) ++ (nth uS1 (@List.cons Tok t (s :: (r ++ z :: q))) 0).2.1) + List.length ([41] : List UInt8) < 4611686018427387904) = true := by
   show decide (List.length (([40] : List UInt8) ++ t.2.1) + List.length ([41] : List UInt8) < 4611686018427387904) = true
   have := hok.2.1; simp; omega
  unfold zA qQ
  simp only [qC, cond_true, zI, Option.bind_some, zt, zn, Bool.and_true, hl1, hl2]
  simp only [qE]
  by_cases h4 : t.1 = 4
  ·have e4 : (t.1 == (4 : Int)) = true := by rw [beq_iff_eq]; exact h4
   obtain ⟨h0, h32⟩ := hok.2.2 h4
   have hne : (t.2.1 != ([] : List UInt8)) = true := by simpa using h0
   simp only [e4, Bool.not_true, cond_false, za1 _ hok.2.1 h0 h32, zq, if_pos h4, fP]
   cases hf : flS t.2.1 with
   | none =>
    simp only [Option.bind_some, cond_false, Option.map_none]
    exact ⟨_, rfl⟩
   | some n =>
    simp only [Option.bind_some, cond_true, Option.map_some, hne, Bool.not_true, cond_false, orP]
    simp only [ek, cond_false]
    by_cases hs : s.1 = 1
    ·have e5 : (s.1 == (1 : Int)) = true := by rw [beq_iff_eq]; exact hs
     simp only [e5, Bool.not_true, cond_false, if_pos hs]
     exact zhy y1 y2 y3 z q hz r _ m (fun u hu => hp u (List.mem_cons_of_mem _ (List.mem_cons_of_mem _ hu))) (by simp only [List.length_cons] at h; omega)
    ·have e5 : (s.1 == (1 : Int)) = false := by simpa using hs
     simp only [e5, Bool.not_false, cond_true, if_neg hs]
     exact ⟨_, rfl⟩
  ·have e4 : (t.1 == (4 : Int)) = false := by simpa using h4
   simp only [zq, if_neg h4, e4, Bool.not_false, cond_true]
   exact ⟨_, rfl⟩
theorem zf7 (y1 : List UInt8) (y2 : Int) (y3 : List (Int × Int)) (y4 : Int) (y5 : Bool) (z : Tok) (q : List Tok) (hz : z.1 = 0 \/ z.1 = 3) : ∀ (p : List Tok) (a : UInt8) (m : Nat), (∀ t ∈ p, z7 t /\ t.1 ≠ 3) -> p.length < m ->
  match zq fP orP a p with
  | some x => (z.1 = 3 -> zz 3000 m (p ++ z :: q) y1 y2 y3 y4 y5 a = some (.inr (z :: q, y1, y2, y3, y4, y5, x))) /\ (z.1 ≠ 3 -> ∃ y, zz 3000 m (p ++ z :: q) y1 y2 y3 y4 y5 a = some (.inl y))
  | none => ∃ y, zz 3000 m (p ++ z :: q) y1 y2 y3 y4 y5 a = some (.inl y)
 | _, _, 0, _, h => by omega
 | [], a, m + 1, hp, h => by
  have e4 : (z.1 == (4 : Int)) = false := by rcases hz with e | e <;> rw [e] <;> rfl
  simp only [zq, List.nil_append]
  unfold zz qw
  simp only [qC, cond_true, zI, qE, Option.bind_some, e4, Bool.not_false]
  exact ⟨_, rfl⟩
 | [t], a, m + 1, hp, h => by
  obtain ⟨hok, hk⟩ := hp t (List.mem_cons_self ..)
  have e1 : (z.1 == (1 : Int)) = false := by rcases hz with e | e <;> rw [e] <;> rfl
  simp only [List.cons_append, List.nil_append]
  have hl1 : decide (List.length ([40] : List UInt8) + List.length (nth uS1 (@List.cons Tok t (z :: q)) 0).2.1 < 4611686018427387904) = true := by
   show decide (List.length ([40] : List UInt8) + List.length t.2.1 < 4611686018427387904) = true
   have := hok.2.1; simp; omega
  have hl2 : decide (List.length (([40] : List UInt8) ++ (nth uS1 (@List.cons Tok t (z :: q)) 0).2.1) + List.length ([41] : List UInt8) < 4611686018427387904) = true := by
   show decide (List.length (([40] : List UInt8) ++ t.2.1) + List.length ([41] : List UInt8) < 4611686018427387904) = true
   have := hok.2.1; simp; omega
  unfold zz qw
  simp only [qC, cond_true, zI, Option.bind_some, zt, zn, Bool.and_true, hl1, hl2]
  simp only [qE]
  by_cases h4 : t.1 = 4
  ·have e4 : (t.1 == (4 : Int)) = true := by rw [beq_iff_eq]; exact h4
   obtain ⟨h0, h32⟩ := hok.2.2 h4
   have hne : (t.2.1 != ([] : List UInt8)) = true := by simpa using h0
   simp only [e4, Bool.not_true, cond_false, za1 _ hok.2.1 h0 h32, zq, if_pos h4, fP]
   cases hf : flS t.2.1 with
   | none =>
    simp only [Option.bind_some, cond_false, Option.map_none]
    exact ⟨_, rfl⟩
   | some n =>
    simp only [Option.bind_some, cond_true, Option.map_some, hne, Bool.not_true, cond_false, orP]
    by_cases hzk : z.1 = 3
    ·have e5 : (z.1 == (3 : Int)) = true := by rw [beq_iff_eq]; exact hzk
     simp only [e5, cond_true]
     exact ⟨fun _ => (by first | rfl | trivial), fun h => absurd hzk h⟩
    ·have e5 : (z.1 == (3 : Int)) = false := by simpa using hzk
     simp only [e5, cond_false, e1, Bool.not_false, cond_true]
     exact ⟨fun h => absurd h hzk, fun _ => ⟨_, rfl⟩⟩
  ·have e4 : (t.1 == (4 : Int)) = false := by simpa using h4
   simp only [zq, if_neg h4, e4, Bool.not_false, cond_true]
   exact ⟨_, rfl⟩
 | t :: s :: r, a, m + 1, hp, h => by
  obtain ⟨hok, hk⟩ := hp t (List.mem_cons_self ..)
  obtain ⟨hok2, hk2⟩ := hp s (List.mem_cons_of_mem _ (List.mem_cons_self ..))
  have ek : (s.1 == (3 : Int)) = false := by simpa using hk2
  simp only [List.cons_append]
  have hl1 : decide (List.length ([40] : List UInt8) + List.length (nth uS1 (@List.cons Tok t (s :: (r ++ z :: q))) 0).2.1 < 4611686018427387904) = true := by
   show decide (List.length ([40] : List UInt8) + List.length t.2.1 < 4611686018427387904) = true
   have := hok.2.1; simp; omega
  have hl2 : decide (List.length (([40] : List UInt8) ++ (nth uS1 (@List.cons Tok t (s :: (r ++ z :: q))) 0).2.1) + List.length ([41] : List UInt8) < 4611686018427387904) = true := by
   show decide (List.length (([40] : List UInt8) ++ t.2.1) + List.length ([41] : List UInt8) < 4611686018427387904) = true
   have := hok.2.1; simp; omega
  unfold zz qw
  simp only [qC, cond_true, zI, Option.bind_some, zt, zn, Bool.and_true, hl1, hl2]
  simp only [qE]
  by_cases h4 : t.1 = 4
  ·have e4 : (t.1 == (4 : Int)) = true := by rw [beq_iff_eq]; exact h4
   obtain ⟨h0, h32⟩ := hok.2.2 h4
   have hne : (t.2.1 != ([] : List UInt8)) = true := by simpa using h0
   simp only [e4, Bool.not_true, cond_false, za1 _ hok.2.1 h0 h32, zq, if_pos h4, fP]
   cases hf : flS t.2.1 with
   | none =>
    simp only [Option.bind_some, cond_false, Option.map_none]
    exact ⟨_, rfl⟩
   | some n =>
    simp only [Option.bind_some, cond_true, Option.map_some, hne, Bool.not_true, cond_false, orP]
    simp only [ek, cond_false]
    by_cases hs : s.1 = 1
    ·have e5 : (s.1 == (1 : Int)) = true := by rw [beq_iff_eq]; exact hs
     simp only [e5, Bool.not_true, cond_false, if_pos hs]
     exact zf7 y1 y2 y3 y4 y5 z q hz r _ m (fun u hu => hp u (List.mem_cons_of_mem _ (List.mem_cons_of_mem _ hu))) (by simp only [List.length_cons] at h; omega)
    ·have e5 : (s.1 == (1 : Int)) = false := by simpa using hs
     simp only [e5, Bool.not_false, cond_true, if_neg hs]
     exact ⟨_, rfl⟩
  ·have e4 : (t.1 == (4 : Int)) = false := by simpa using h4
   simp only [zq, if_neg h4, e4, Bool.not_false, cond_true]
   exact ⟨_, rfl⟩
theorem ziz (y1 : List UInt8) (y2 : Int) (y3 : List (Int × Int)) (y4 : Int) (y5 : Bool) (z : Tok) (q : List Tok) (hz : z.1 = 0 \/ z.1 = 3) : ∀ (p : List Tok) (a : UInt8) (m : Nat), (∀ t ∈ p, z7 t /\ t.1 ≠ 0) -> p.length < m ->
  match zq fP orP a p with
  | some x => (z.1 = 0 -> zB 3000 m (p ++ z :: q) y1 y2 y3 y4 y5 a = some (.inr (z :: q, y1, y2, y3, y4, y5, x))) /\ (z.1 ≠ 0 -> ∃ y, zB 3000 m (p ++ z :: q) y1 y2 y3 y4 y5 a = some (.inl y))
  | none => ∃ y, zB 3000 m (p ++ z :: q) y1 y2 y3 y4 y5 a = some (.inl y)
 | _, _, 0, _, h => by omega
 | [], a, m + 1, hp, h => by
  have e4 : (z.1 == (4 : Int)) = false := by rcases hz with e | e <;> rw [e] <;> rfl
  simp only [zq, List.nil_append]
  unfold zB qz
  simp only [qC, cond_true, zI, qE, Option.bind_some, e4, Bool.not_false]
  exact ⟨_, rfl⟩
 | [t], a, m + 1, hp, h => by
  obtain ⟨hok, hk⟩ := hp t (List.mem_cons_self ..)
  have e1 : (z.1 == (1 : Int)) = false := by rcases hz with e | e <;> rw [e] <;> rfl
  simp only [List.cons_append, List.nil_append]
  have hl1 : decide (List.length ([40] : List UInt8) + List.length (nth uS1 (@List.cons Tok t (z :: q)) 0).2.1 < 4611686018427387904) = true := by
   show decide (List.length ([40] : List UInt8) + List.length t.2.1 < 4611686018427387904) = true
   have := hok.2.1; simp; omega
  have hl2 : decide (List.length (([40] : List UInt8) ++ (nth uS1 (@List.cons Tok t (z :: q)) 0).2.1) + List.length ([41] : List UInt8) < 4611686018427387904) = true := by
   show decide (List.length (([40] : List UInt8) ++ t.2.1) + List.length ([41] : List UInt8) < 4611686018427387904) = true
   have := hok.2.1; simp; omega
  unfold zB qz
  simp only [qC, cond_true, zI, Option.bind_some, zt, zn, Bool.and_true, hl1, hl2]
  simp only [qE]
  by_cases h4 : t.1 = 4
  ·have e4 : (t.1 == (4 : Int)) = true := by rw [beq_iff_eq]; exact h4
   obtain ⟨h0, h32⟩ := hok.2.2 h4
   have hne : (t.2.1 != ([] : List UInt8)) = true := by simpa using h0
   simp only [e4, Bool.not_true, cond_false, za1 _ hok.2.1 h0 h32, zq, if_pos h4, fP]
   cases hf : flS t.2.1 with
   | none =>
    simp only [Option.bind_some, cond_false, Option.map_none]
    exact ⟨_, rfl⟩
   | some n =>
    simp only [Option.bind_some, cond_true, Option.map_some, hne, Bool.not_true, cond_false, orP]
    by_cases hzk : z.1 = 0
    ·have e5 : (z.1 == (0 : Int)) = true := by rw [beq_iff_eq]; exact hzk
     simp only [e5, cond_true]
     exact ⟨fun _ => (by first | rfl | trivial), fun h => absurd hzk h⟩
    ·have e5 : (z.1 == (0 : Int)) = false := by simpa using hzk
     simp only [e5, cond_false, e1, Bool.not_false, cond_true]
     exact ⟨fun h => absurd h hzk, fun _ => ⟨_, rfl⟩⟩
  ·have e4 : (t.1 == (4 : Int)) = false := by simpa using h4
   simp only [zq, if_neg h4, e4, Bool.not_false, cond_true]
   exact ⟨_, rfl⟩
 | t :: s :: r, a, m + 1, hp, h => by
  obtain ⟨hok, hk⟩ := hp t (List.mem_cons_self ..)
  obtain ⟨hok2, hk2⟩ := hp s (List.mem_cons_of_mem _ (List.mem_cons_self ..))
  have ek : (s.1 == (0 : Int)) = false := by simpa using hk2
  simp only [List.cons_append]
  have hl1 : decide (List.length ([40] : List UInt8) + List.length (nth uS1 (@List.cons Tok t (s :: (r ++ z :: q))) 0).2.1 < 4611686018427387904) = true := by
   show decide (List.length ([40] : List UInt8) + List.length t.2.1 < 4611686018427387904) = true
   have := hok.2.1; simp; omega
  have hl2 : decide (List.length (([40] : List UInt8) ++ (nth uS1 (@List.cons Tok t (s :: (r ++ z :: q))) 0).2.1) + List.length ([41] : List UInt8) < 4611686018427387904) = true := by
   show decide (List.length (([40] : List UInt8) ++ t.2.1) + List.length ([41] : List UInt8) < 4611686018427387904) = true
   have := hok.2.1; simp; omega
  unfold zB qz
  simp only [qC, cond_true, zI, Option.bind_some, zt, zn, Bool.and_true, hl1, hl2]
  simp only [qE]
  by_cases h4 : t.1 = 4
  ·have e4 : (t.1 == (4 : Int)) = true := by rw [beq_iff_eq]; exact h4
   obtain ⟨h0, h32⟩ := hok.2.2 h4
   have hne : (t.2.1 != ([] : List UInt8)) = true := by simpa using h0
   simp only [e4, Bool.not_true, cond_false, za1 _ hok.2.1 h0 h32, zq, if_pos h4, fP]
   cases hf : flS t.2.1 with
   | none =>
    simp only [Option.bind_some, cond_false, Option.map_none]
    exact ⟨_, rfl⟩
   | some n =>
    simp only [Option.bind_some, cond_true, Option.map_some, hne, Bool.not_true, cond_false, orP]
    simp only [ek, cond_false]
    by_cases hs : s.1 = 1
    ·have e5 : (s.1 == (1 : Int)) = true := by rw [beq_iff_eq]; exact hs
     simp only [e5, Bool.not_true, cond_false, if_pos hs]
     exact ziz y1 y2 y3 y4 y5 z q hz r _ m (fun u hu => hp u (List.mem_cons_of_mem _ (List.mem_cons_of_mem _ hu))) (by simp only [List.length_cons] at h; omega)
    ·have e5 : (s.1 == (1 : Int)) = false := by simpa using hs
     simp only [e5, Bool.not_false, cond_true, if_neg hs]
     exact ⟨_, rfl⟩
  ·have e4 : (t.1 == (4 : Int)) = false := by simpa using h4
   simp only [zq, if_neg h4, e4, Bool.not_false, cond_true]
   exact ⟨_, rfl⟩
theorem zfo (y1 : List UInt8) (y2 : Int) (y3 : List (Int × Int)) (y5 : UInt8) (z : Tok) (q : List Tok) (hz : z.1 = 0 \/ z.1 = 3) : ∀ (p : List Tok) (a : Int) (m : Nat), (∀ t ∈ p, z7 t /\ t.1 ≠ 3) -> p.length < m ->
  match zq (fW true) orI a p with
  | some x => (z.1 = 3 -> zy 3000 m (p ++ z :: q) y1 y2 y3 a y5 = some (.inr (z :: q, y1, y2, y3, x, y5))) /\ (z.1 ≠ 3 -> ∃ y, zy 3000 m (p ++ z :: q) y1 y2 y3 a y5 = some (.inl y))
  | none => ∃ y, zy 3000 m (p ++ z :: q) y1 y2 y3 a y5 = some (.inl y)
 | _, _, 0, _, h => by omega
 | [], a, m + 1, hp, h => by
  have e4 : (z.1 == (4 : Int)) = false := by rcases hz with e | e <;> rw [e] <;> rfl
  simp only [zq, List.nil_append]
  unfold zy qy
  simp only [qC, cond_true, zI, qE, Option.bind_some, e4, Bool.not_false]
  exact ⟨_, rfl⟩
 | [t], a, m + 1, hp, h => by
  obtain ⟨hok, hk⟩ := hp t (List.mem_cons_self ..)
  have e1 : (z.1 == (1 : Int)) = false := by rcases hz with e | e <;> rw [e] <;> rfl
  simp only [List.cons_append, List.nil_append]
  unfold zy qy
  simp only [qC, cond_true, zI, qE, Option.bind_some, zt, zn, Bool.and_true]
  by_cases h4 : t.1 = 4
  ·have e4 : (t.1 == (4 : Int)) = true := by rw [beq_iff_eq]; exact h4
   have hi := zhf _ hok.2.1
   simp only [e4, Bool.not_true, cond_false, zbU _ hok.2.1, Option.bind_some, zq, if_pos h4]
   by_cases h0 : kr t.2.1 = 0
   ·have hd : decide (0 < kr t.2.1) = false := by simp; omega
    simp only [zjF h0, Option.map_none, hd, Bool.not_false, cond_true]
    exact ⟨_, rfl⟩
   ·have hd : decide (0 < kr t.2.1) = true := by simp; omega
    simp only [zjp h0, Option.map_some, hd, Bool.not_true, cond_false, orI]
    by_cases hzk : z.1 = 3
    ·have e5 : (z.1 == (3 : Int)) = true := by rw [beq_iff_eq]; exact hzk
     simp only [e5, cond_true]
     exact ⟨fun _ => (by first | rfl | trivial), fun h => absurd hzk h⟩
    ·have e5 : (z.1 == (3 : Int)) = false := by simpa using hzk
     simp only [e5, cond_false, e1, Bool.not_false, cond_true]
     exact ⟨fun h => absurd h hzk, fun _ => ⟨_, rfl⟩⟩
  ·have e4 : (t.1 == (4 : Int)) = false := by simpa using h4
   simp only [zq, if_neg h4, e4, Bool.not_false, cond_true]
   exact ⟨_, rfl⟩
 | t :: s :: r, a, m + 1, hp, h => by
  obtain ⟨hok, hk⟩ := hp t (List.mem_cons_self ..)
  obtain ⟨hok2, hk2⟩ := hp s (List.mem_cons_of_mem _ (List.mem_cons_self ..))
  have ek : (s.1 == (3 : Int)) = false := by simpa using hk2
  simp only [List.cons_append]
  unfold zy qy
  simp only [qC, cond_true, zI, qE, Option.bind_some, zt, zn, Bool.and_true]
  by_cases h4 : t.1 = 4
  ·have e4 : (t.1 == (4 : Int)) = true := by rw [beq_iff_eq]; exact h4
   have hi := zhf _ hok.2.1
   simp only [e4, Bool.not_true, cond_false, zbU _ hok.2.1, Option.bind_some, zq, if_pos h4]
   by_cases h0 : kr t.2.1 = 0
   ·have hd : decide (0 < kr t.2.1) = false := by simp; omega
    simp only [zjF h0, hd, Bool.not_false, cond_true]
    exact ⟨_, rfl⟩
   ·have hd : decide (0 < kr t.2.1) = true := by simp; omega
    simp only [zjp h0, hd, Bool.not_true, cond_false, orI]
    simp only [ek, cond_false]
    by_cases hs : s.1 = 1
    ·have e5 : (s.1 == (1 : Int)) = true := by rw [beq_iff_eq]; exact hs
     simp only [e5, Bool.not_true, cond_false, if_pos hs]
     exact zfo y1 y2 y3 y5 z q hz r _ m (fun u hu => hp u (List.mem_cons_of_mem _ (List.mem_cons_of_mem _ hu))) (by simp only [List.length_cons] at h; omega)
    ·have e5 : (s.1 == (1 : Int)) = false := by simpa using hs
     simp only [e5, Bool.not_false, cond_true, if_neg hs]
     exact ⟨_, rfl⟩
  ·have e4 : (t.1 == (4 : Int)) = false := by simpa using h4
   simp only [zq, if_neg h4, e4, Bool.not_false, cond_true]
   exact ⟨_, rfl⟩
def zbH : List Tok -> Option (List Tok × List Tok)
 | [] => none
 | t :: r => if t.1 = 3 then some ([], r) else (zbH r).map fun p => (t :: p.1, p.2)
theorem wJ : ∀ {l p q : List Tok}, zbH l = some (p, q) -> ∃ z : Tok, z.1 = 3 /\ l = p ++ z :: q /\ ∀ t ∈ p, t.1 ≠ 3
 | [], p, q, h => by cases h
 | t :: r, p, q, h => by
  unfold zbH at h
  by_cases h3 : t.1 = 3
  ·rw [if_pos h3] at h
   cases h
   exact ⟨t, h3, rfl, (fun _ h => by cases h)⟩
  ·rw [if_neg h3] at h
   cases hc : zbH r with
   | none => rw [hc] at h; cases h
   | some pq =>
    rw [hc] at h
    cases h
    obtain ⟨z, h1, h2, h4⟩ := wJ (p := pq.1) (q := pq.2) hc
    refine ⟨z, h1, by rw [h2]; rfl, fun u hu => ?_⟩
    rcases List.mem_cons.1 hu with rfl | hu
    ·exact h3
    ·exact h4 u hu
theorem zhH {z : Tok} {q : List Tok} (hz : z.1 = 3) : ∀ {p : List Tok}, (∀ t ∈ p, t.1 ≠ 3) -> zbH (p ++ z :: q) = some (p, q)
 | [], _ => by unfold zbH; simp only [List.nil_append, if_pos hz]
 | t :: r, h => by
  unfold zbH
  simp only [List.cons_append, if_neg (h t (List.mem_cons_self ..)), zhH hz (p := r) (fun u hu => h u (List.mem_cons_of_mem _ hu)), Option.map_some]
theorem zlX : ∀ {l : List Tok}, (∀ t ∈ l, t.1 ≠ 3) -> zbH l = none
 | [], _ => rfl
 | t :: r, h => by
  unfold zbH
  rw [if_neg (h t (List.mem_cons_self ..)), zlX (l := r) (fun u hu => h u (List.mem_cons_of_mem _ hu))]; rfl
theorem zaK : ∀ {l : List Tok}, zbH l = none -> ∀ t ∈ l, t.1 ≠ 3
 | [], _, _, h => by cases h
 | t :: r, h, u, hu => by
  unfold zbH at h
  by_cases h3 : t.1 = 3
  ·rw [if_pos h3] at h; cases h
  ·rw [if_neg h3] at h
   cases hc : zbH r with
   | some pq => rw [hc] at h; cases h
   | none =>
    rcases List.mem_cons.1 hu with rfl | hu
    ·exact h3
    ·exact zaK hc u hu
theorem zfZ {A : Type} {f : List UInt8 -> Option A} {op : A -> A -> A} : ∀ {l : List Tok} {a x : A}, zq f op a l = some x -> ∀ t ∈ l, t.1 ≠ 3
 | [], a, x, h, t, ht => by cases ht
 | [t], a, x, h, u, hu => by
  rw [List.mem_singleton.1 hu]
  by_cases h4 : t.1 = 4
  ·omega
  ·simp only [zq, if_neg h4] at h; cases h
 | t :: s :: r, a, x, h, u, hu => by
  by_cases h4 : t.1 = 4
  ·simp only [zq, if_pos h4] at h
   cases hf : f t.2.1 with
   | none => rw [hf] at h; cases h
   | some y =>
    rw [hf] at h
    by_cases h1 : s.1 = 1
    ·simp only [if_pos h1] at h
     rcases List.mem_cons.1 hu with rfl | hu
     ·omega
     ·rcases List.mem_cons.1 hu with rfl | hu
      ·omega
      ·exact zfZ h u hu
    ·simp only [if_neg h1] at h; cases h
  ·simp only [zq, if_neg h4] at h; cases h
def brS (items : Bool) : List Tok -> Option (Int × List Tok)
 | [] => none
 | a :: r => if a.1 = 2 then (match zbH r with
  | none => none
  | some ([], q) => cond items none (some (0, q))
  | some (t :: p, q) => (zq (fW items) orI 0 (t :: p)).map fun x => (x, q)) else none
def zgb : Option (Int × List Tok) -> Option Int
 | some (x, []) => some x
 | _ => none
theorem zgr {items : Bool} {l q : List Tok} {x : Int} (h : brS items l = some (x, q)) : ∃ pre, l = pre ++ q := by
 cases l with
 | nil => cases h
 | cons a r =>
  unfold brS at h
  simp only at h
  by_cases h2 : a.1 = 2
  ·rw [if_pos h2] at h
   cases hc : zbH r with
   | none => rw [hc] at h; cases h
   | some pq =>
    obtain ⟨p, q'⟩ := pq
    obtain ⟨z, z1, z2, z3⟩ := wJ hc
    have hq : q' = q := by
     rw [hc] at h
     cases p with
     | nil => cases items <;> simp only [cond_true, cond_false] at h <;> cases h <;> rfl
     | cons t p =>
      simp only at h
      cases hw : zq (fW items) orI 0 (t :: p) with
      | none => rw [hw] at h; cases h
      | some y => rw [hw] at h; cases h; rfl
    rw [<- hq, z2]
    exact ⟨a :: p ++ [z], by simp⟩
  ·rw [if_neg h2] at h; cases h
theorem zrf {items : Bool} {s d : Tok} (hs : s.1 ≠ 3) (hd : d.1 ≠ 3) (hs2 : s.1 ≠ 2) : ∀ (l : List Tok), brS items (l ++ [s, d]) = (brS items l).map fun p => (p.1, p.2 ++ [s, d])
 | [] => by simp only [List.nil_append, brS, if_neg hs2, Option.map_none]
 | a :: r => by
  simp only [List.cons_append, brS]
  by_cases h2 : a.1 = 2
  ·simp only [if_pos h2]
   cases hc : zbH r with
   | none =>
    have := zaK hc
    rw [zlX (l := r ++ [s, d]) (fun t ht => by
     rcases List.mem_append.1 ht with h | h
     ·exact this t h
     ·simp only [List.mem_cons, List.not_mem_nil, or_false] at h
      rcases h with rfl | rfl
      ·exact hs
      ·exact hd)]
    rfl
   | some pq =>
    obtain ⟨p, q⟩ := pq
    obtain ⟨z, z1, z2, z3⟩ := wJ hc
    rw [z2, show p ++ z :: q ++ [s, d] = p ++ z :: (q ++ [s, d]) from by simp, zhH z1 z3]
    cases p with
    | nil => cases items <;> rfl
    | cons t p =>
     simp only [Option.map_map]
     cases zq (fW items) orI 0 (t :: p) <;> rfl
  ·simp only [if_neg h2, Option.map_none]
theorem zpb {α : Type} (l : List α) (h : 2 <= l.length) : ∃ (a : α) (m : List α) (z : α), l = a :: (m ++ [z]) := by
 cases l with
 | nil => simp at h
 | cons a r =>
  cases r with
  | nil => simp at h
  | cons b r => exact ⟨a, (b :: r).dropLast, (b :: r).getLast (by simp), by rw [List.dropLast_concat_getLast]⟩
theorem zo0 (a : Tok) (m : List Tok) (z : Tok) : nth uS1 (@List.cons Tok a (m ++ [z])) (m.length + 1) = z := by
 unfold nth
 simp
theorem zhM (items : Bool) (l : List Tok) (hl : l.length <= 2000) (hk : ∀ t ∈ l, z7 t) : WR (jg 3000 l items) (zgb (brS items l)) := by
 by_cases h2 : l.length < 2
 ·have e : decide ((((List.length l) : Nat) : Int) < 2) = true := by simp; omega
  unfold jg
  simp only [e, cond_true]
  have : zgb (brS items l) = none := by
   match l, h2 with
   | [], _ => rfl
   | [a], _ =>
    unfold brS
    by_cases ha : a.1 = 2
    ·simp only [if_pos ha, zbH]; rfl
    ·simp only [if_neg ha]; rfl
  rw [this]; exact ⟨_, rfl⟩
 ·obtain ⟨a, m, z, rfl⟩ := zpb l (by omega)
  have hlen : (a :: (m ++ [z])).length = m.length + 2 := by simp
  have hm2 : m.length + 2 <= 2000 := by rw [<- hlen]; exact hl
  have e1 : decide ((((List.length (a :: (m ++ [z]))) : Nat) : Int) < 2) = false := by rw [hlen]; simp; omega
  have e2 : IntKind.wrap .i64 ((((List.length (a :: (m ++ [z]))) : Nat) : Int) - 1) = ((m.length + 1 : Nat) : Int) := by rw [hlen, wri (by omega) (by omega)]; omega
  have e3 : inb ((m.length + 1 : Nat) : Int) (List.length (a :: (m ++ [z]))) = true := zX (by rw [hlen]; omega)
  have e4 := qT (a := 1) (b := m.length + 1) (n := (a :: (m ++ [z])).length) (by omega) (by rw [hlen]; omega)
  rw [show ((1 : Nat) : Int) = (1 : Int) from rfl] at e4
  have e5 : slice (a :: (m ++ [z])) 1 (m.length + 1) = m := by unfold slice; simp
  have e6 : ((((List.length (a :: (m ++ [z]))) : Nat) : Int) == (2 : Int)) = decide (m = []) := by
   rw [hlen]
   cases m with
   | nil => rfl
   | cons b m =>
    have : ((((b :: m).length + 2 : Nat) : Int) == (2 : Int)) = false := by simp; omega
    rw [this]; simp
  unfold jg
  simp only [e1, cond_false, qC, cond_true, qE, e2, e3, Int.toNat_natCast, zo0, e4, e5, e6, Bool.and_true]
  simp only [brS]
  by_cases ha : a.1 = 2
  ·have b1 : (a.1 != (2 : Int)) = false := by simpa using ha
   simp only [b1, cond_false, if_pos ha]
   by_cases hz : z.1 = 3
   ·have b2 : (z.1 != (3 : Int)) = false := by simpa using hz
    simp only [b2, cond_false]
    by_cases hm : ∀ t ∈ m, t.1 ≠ 3
    ·rw [show m ++ [z] = m ++ z :: [] from rfl, zhH hz hm]
     cases m with
     | nil => cases items <;> first | exact ⟨_, rfl⟩ | rfl
     | cons b m =>
      have hw := zdC items (b :: m) (by omega) (fun t ht => hk t (List.mem_cons_of_mem _ (List.mem_append_left _ ht)))
      simp only [show decide ((b :: m) = []) = false from rfl, cond_false]
      cases hs : zq (fW items) orI 0 (b :: m) with
      | some x =>
       rw [hs] at hw
       simp only [WR] at hw
       rw [hw]; rfl
      | none =>
       rw [hs] at hw
       obtain ⟨v, hv⟩ := hw
       rw [hv]; exact ⟨_, rfl⟩
    ·have hcn : ∃ p q, zbH (m ++ [z]) = some (p, q) /\ q ≠ [] := by
      cases hc : zbH m with
      | none => exact absurd (zaK hc) hm
      | some pq =>
       obtain ⟨p, q⟩ := pq
       obtain ⟨y, y1, y2, y3⟩ := wJ hc
       refine ⟨p, q ++ [z], ?_, by simp⟩
       rw [y2, show p ++ y :: q ++ [z] = p ++ y :: (q ++ [z]) from by simp, zhH y1 y3]
     obtain ⟨p, q, c1, c2⟩ := hcn
     have hn : zq (fW items) orI 0 m = none := by
      cases hs : zq (fW items) orI 0 m with
      | none => rfl
      | some x => exact absurd (zfZ hs) hm
     have hmne : decide (m = []) = false := by
      cases m with
      | nil => exact absurd (fun t ht => by cases ht) hm
      | cons b m => simp
     have hw := zdC items m (by omega) (fun t ht => hk t (List.mem_cons_of_mem _ (List.mem_append_left _ ht)))
     rw [hn] at hw
     obtain ⟨v, hv⟩ := hw
     have ho : ∀ o : Option Int, zgb (o.map fun x => (x, q)) = none := by
      intro o
      cases o with
      | none => rfl
      | some x => cases q with
       | nil => exact absurd rfl c2
       | cons c q => rfl
     rw [c1, hmne, cond_false, hv]
     cases p with
     | nil =>
      cases items with
      | true => exact ⟨_, rfl⟩
      | false =>
       simp only [cond_false]
       rw [show (some ((0 : Int), q)) = (some (0 : Int)).map (fun x => (x, q)) from rfl, ho]
       exact ⟨_, rfl⟩
     | cons t p =>
      simp only
      rw [ho]
      exact ⟨_, rfl⟩
   ·have b2 : (z.1 != (3 : Int)) = true := by simpa using hz
    simp only [b2, cond_true]
    have : zgb (match zbH (m ++ [z]) with
      | none => none
      | some ([], q) => cond items none (some (0, q))
      | some (t :: p, q) => (zq (fW items) orI 0 (t :: p)).map fun x => (x, q)) = none := by
     cases hc : zbH (m ++ [z]) with
     | none => rfl
     | some pq =>
      obtain ⟨p, q⟩ := pq
      obtain ⟨y, y1, y2, y3⟩ := wJ hc
      cases q with
      | nil =>
       have := (List.append_inj' (show m ++ [z] = p ++ [y] from y2) rfl).2
       cases this
       exact absurd y1 hz
      | cons c q =>
       cases p with
       | nil => cases items <;> rfl
       | cons t p =>
        simp only
        cases zq (fW items) orI 0 (t :: p) <;> rfl
    rw [this]
    exact ⟨_, rfl⟩
  ·have b1 : (a.1 != (2 : Int)) = true := by simpa using ha
   simp only [b1, cond_true, if_neg ha]
   exact ⟨_, rfl⟩
def cA (tag : List UInt8) (k : Int) (m : List UInt8) (f : UInt8) (d : List UInt8) : El uS2 := (tag, (k, (m, ([], (0, (0, (false, (f, d))))))))
def zex : List Tok -> Option (UInt8 × List UInt8)
 | [] => none
 | [d] => if d.1 = 6 then some (0, d.2.1) else none
 | a :: b :: r => match brS false (a :: b :: r) with
  | some (x, [s, d]) => if s.1 = 1 /\ d.1 = 6 then some (zaw x, d.2.1) else none
  | _ => none
theorem zom {α : Type} (l : List α) (h : 2 <= l.length) : ∃ (m : List α) (s d : α), l = m ++ [s, d] := by
 refine ⟨l.take (l.length - 2), l[l.length - 2], l[l.length - 1], ?_⟩
 have h1 : l.drop (l.length - 2) = [l[l.length - 2], l[l.length - 1]] := by
  rw [List.drop_eq_getElem_cons (by omega)]
  congr 1
  rw [List.drop_eq_getElem_cons (by omega)]
  congr 1
  ·congr 1; omega
  ·rw [List.drop_eq_nil_of_le (by omega)]
 rw [<- h1, List.take_append_drop]
theorem zkQ {l : List Tok} {s d : Tok} : zex (l ++ [s, d]) = match brS false (l ++ [s, d]) with
  | some (x, [s, d]) => if s.1 = 1 /\ d.1 = 6 then some (zaw x, d.2.1) else none
  | _ => none := by
 match l with
 | [] => rfl
 | [a] => rfl
 | a :: b :: l => rfl
theorem zhb {l : List Tok} {s d : Tok} (h : ¬ (s.1 = 1 /\ d.1 = 6)) : zex (l ++ [s, d]) = none := by
 rw [zkQ]
 split
 ·rename_i x s' d' hb
  obtain ⟨pre, hp⟩ := zgr hb
  have := (List.append_inj' hp rfl).2
  cases this
  rw [if_neg h]
 ·rfl
theorem ziC {l : List Tok} {s d : Tok} (hs : s.1 = 1) (hd : d.1 = 6) : zex (l ++ [s, d]) = (zgb (brS false l)).map fun x => (zaw x, d.2.1) := by
 rw [zkQ, zrf (by omega) (by omega) (by omega)]
 cases hb : brS false l with
 | none => rfl
 | some pq =>
  obtain ⟨x, q⟩ := pq
  cases q with
  | nil =>
   simp only [Option.map_some, List.nil_append, zgb]
   rw [if_pos ⟨hs, hd⟩]
  | cons c q =>
   simp only [Option.map_some, List.cons_append, zgb]
   cases q with
   | nil => rfl
   | cons c2 q => cases q <;> rfl
theorem zp3 (tag : List UInt8) (k : Int) (m : List UInt8) (l : List Tok) (hl : l.length <= 2000) (hk : ∀ t ∈ l, z7 t) : match zex l with
  | some (f, d) => qH 3000 (cA tag k m 0 []) l = some (cA tag k m f d, true, ())
  | none => ∃ c, qH 3000 (cA tag k m 0 []) l = some (c, false, ()) := by
 by_cases h2 : 2 <= l.length
 ·obtain ⟨l', s, d, rfl⟩ := zom l h2
  have hlen : (l' ++ [s, d]).length = l'.length + 2 := by simp
  have hl2 : l'.length + 2 <= 2000 := by rw [<- hlen]; exact hl
  have hks := hk s (by simp)
  have hkd := hk d (by simp)
  have e0 : ((((List.length (l' ++ [s, d])) : Nat) : Int) == (0 : Int)) = false := by rw [hlen]; simp; omega
  have e1 : ((((List.length (l' ++ [s, d])) : Nat) : Int) == (1 : Int)) = false := by rw [hlen]; simp; omega
  have e2 : IntKind.wrap .i64 ((((List.length (l' ++ [s, d])) : Nat) : Int) - 1) = ((l'.length + 1 : Nat) : Int) := by rw [hlen, wri (by omega) (by omega)]; omega
  have e3 : IntKind.wrap .i64 ((((List.length (l' ++ [s, d])) : Nat) : Int) - 2) = ((l'.length : Nat) : Int) := by rw [hlen, wri (by omega) (by omega)]; omega
  have e4 : inb ((l'.length + 1 : Nat) : Int) (List.length (l' ++ [s, d])) = true := zX (by rw [hlen]; omega)
  have e5 : inb ((l'.length : Nat) : Int) (List.length (l' ++ [s, d])) = true := zX (by rw [hlen]; omega)
  have e6 : nth uS1 (l' ++ [s, d]) (l'.length + 1) = d := by unfold nth; simp
  have e7 : nth uS1 (l' ++ [s, d]) l'.length = s := by unfold nth; simp
  have e8 := qT (a := 0) (b := l'.length) (n := (l' ++ [s, d]).length) (by omega) (by rw [hlen]; omega)
  rw [show ((0 : Nat) : Int) = (0 : Int) from rfl] at e8
  have e9 : slice (l' ++ [s, d]) 0 l'.length = l' := by rw [jz]; simp
  have eb := zbB (n := d.2.1.length) (by have := hkd.2.1; omega)
  have hw := zhM false l' (by omega) (fun t ht => hk t (List.mem_append_left _ ht))
  unfold qH
  simp only [e0, cond_false, e2, e4, cond_true, Int.toNat_natCast, e6, eb, e1, e3, e8, Bool.and_true, e9]
  by_cases hd : d.1 = 6
  ·have d6 : (d.1 != (6 : Int)) = false := by simpa using hd
   simp only [d6, cond_false]
   cases ho : zgb (brS false l') with
   | none =>
    rw [ho] at hw
    obtain ⟨v, hv⟩ := hw
    have : zex (l' ++ [s, d]) = none := by
     by_cases hs : s.1 = 1
     ·rw [ziC hs hd, ho]; rfl
     ·exact zhb (fun h => hs h.1)
    rw [this, hv]
    exact ⟨_, rfl⟩
   | some x =>
    rw [ho] at hw
    simp only [WR] at hw
    rw [hw]
    simp only [Option.bind_some, cond_true, e5, e7]
    by_cases hs : s.1 = 1
    ·have s1 : (s.1 == (1 : Int)) = true := by rw [beq_iff_eq]; exact hs
     rw [ziC hs hd, ho, s1]
     rfl
    ·have s1 : (s.1 == (1 : Int)) = false := by simpa using hs
     rw [zhb (fun h => hs h.1), s1]
     exact ⟨_, rfl⟩
  ·have d6 : (d.1 != (6 : Int)) = true := by simpa using hd
   rw [zhb (fun h => hd h.2)]
   simp only [d6, cond_true]
   exact ⟨_, rfl⟩
 ·match l, h2 with
  | [], _ => exact ⟨_, rfl⟩
  | [d], _ =>
   have hkd := hk d (by simp)
   have eb := zbB (n := d.2.1.length) (by have := hkd.2.1; omega)
   have e0 : ((((List.length [d]) : Nat) : Int) == (0 : Int)) = false := rfl
   have e1 : ((((List.length [d]) : Nat) : Int) == (1 : Int)) = true := rfl
   have e2 : IntKind.wrap .i64 ((((List.length [d]) : Nat) : Int) - 1) = 0 := rfl
   unfold qH zex
   simp only [e0, cond_false, e2, qC, cond_true, show Int.toNat 0 = 0 from rfl, qE, eb, e1]
   by_cases hd : d.1 = 6
   ·have d6 : (d.1 != (6 : Int)) = false := by simpa using hd
    simp only [d6, cond_false, if_pos hd]
    rfl
   ·have d6 : (d.1 != (6 : Int)) = true := by simpa using hd
    simp only [d6, cond_true, if_neg hd]
    exact ⟨_, rfl⟩
  | a :: b :: l, h => exact absurd (by simp) h
def wF : List UInt8 := [70, 76, 65, 71, 83]
def wP : List UInt8 := [43, 70, 76, 65, 71, 83]
def wM : List UInt8 := [45, 70, 76, 65, 71, 83]
def wS : List UInt8 := [46, 83, 73, 76, 69, 78, 84]
def mW (w : List UInt8) (b : Bool) : Option (Int × Bool) := cond (w == wF) (some (0, b)) (cond (w == wP) (some (1, b)) (cond (w == wM) (some (2, b)) none))
def zjx (u : List UInt8) : Option (Int × Bool) := if 7 <= u.length /\ u.drop (u.length - 7) = wS then mW (u.take (u.length - 7)) true else mW u false
def zdW (s : List UInt8) : Option (Int × Bool) := zjx (s.map up)
def zlC (o : Option (Int × Bool)) : Option (Int × Bool × Unit) := some (match o with
 | some (m, b) => (m, b, ())
 | none => (-1, false, ()))
theorem zrj (w : List UInt8) (b : Bool) : (cond (w == ([70, 76, 65, 71, 83] : List UInt8)) (some ((0 : Int), b, ())) (cond (w == ([43, 70, 76, 65, 71, 83] : List UInt8)) (some ((1 : Int), b, ())) (cond (w == ([45, 70, 76, 65, 71, 83] : List UInt8)) (some ((2 : Int), b, ())) (some ((-1 : Int), false, ()))))) = zlC (mW w b) := by
 unfold mW wF wP wM
 cases w == ([70, 76, 65, 71, 83] : List UInt8) <;> cases w == ([43, 70, 76, 65, 71, 83] : List UInt8) <;> cases w == ([45, 70, 76, 65, 71, 83] : List UInt8) <;> rfl
theorem zoY (s : List UInt8) (hs : s.length <= 2000) : zah 3000 s = zlC (zdW s) := by
 unfold zah zdW
 rw [qu s hs]
 have hl : (s.map up).length <= 2000 := by rw [List.length_map]; exact hs
 generalize s.map up = u at hl |-
 simp only [Option.bind_some]
 simp only [zrj]
 unfold zjx
 by_cases h7 : 7 < u.length
 ·have e1 : decide ((7 : Int) < (((List.length u) : Nat) : Int)) = true := by simp; omega
  have e2 : IntKind.wrap .i64 ((((List.length u) : Nat) : Int) - 7) = ((u.length - 7 : Nat) : Int) := by rw [wri (by omega) (by omega)]; omega
  have e3 := qT (a := u.length - 7) (b := u.length) (n := u.length) (by omega) (by omega)
  have e4 := qT (a := 0) (b := u.length - 7) (n := u.length) (by omega) (by omega)
  rw [show ((0 : Nat) : Int) = (0 : Int) from rfl] at e4
  simp only [e1, cond_true, e2, e3, e4, Int.toNat_natCast, xu, jz]
  by_cases hw : u.drop (u.length - 7) = wS
  ·have e5 : (u.drop (u.length - 7) == ([46, 83, 73, 76, 69, 78, 84] : List UInt8)) = true := by rw [beq_iff_eq]; exact hw
   rw [e5, cond_true, if_pos ⟨by omega, hw⟩]
  ·have e5 : (u.drop (u.length - 7) == ([46, 83, 73, 76, 69, 78, 84] : List UInt8)) = false := by
    cases e : u.drop (u.length - 7) == ([46, 83, 73, 76, 69, 78, 84] : List UInt8) with
    | false => rfl
    | true => rw [beq_iff_eq] at e; exact absurd e hw
   rw [e5, cond_false, if_neg (fun h => hw h.2)]
 ·have e1 : decide ((7 : Int) < (((List.length u) : Nat) : Int)) = false := by simp; omega
  simp only [e1, cond_false]
  by_cases h : 7 <= u.length /\ u.drop (u.length - 7) = wS
  ·rw [if_pos h]
   have e : u.length - 7 = 0 := by omega
   have hu : u = wS := by have := h.2; rw [e] at this; exact this
   rw [hu]; rfl
  ·rw [if_neg h]
theorem zp5 (u : List UInt8) : zj 3000 3000 [([70, 76, 65, 71, 83] : List UInt8), ([43, 70, 76, 65, 71, 83] : List UInt8), ([45, 70, 76, 65, 71, 83] : List UInt8)] u 3 0 = (cond (u == ([70, 76, 65, 71, 83] : List UInt8)) (some (.inl 0)) (cond (u == ([43, 70, 76, 65, 71, 83] : List UInt8)) (some (.inl 1)) (cond (u == ([45, 70, 76, 65, 71, 83] : List UInt8)) (some (.inl 2)) (some (.inr ()))))) := by kernel_rfl
theorem zqY (w : List UInt8) (b : Bool) : ∃ i : Int, zp 3000 [([70, 76, 65, 71, 83] : List UInt8), ([43, 70, 76, 65, 71, 83] : List UInt8), ([45, 70, 76, 65, 71, 83] : List UInt8)] w = some (i, ()) /\ (match mW w b with
  | some (m, b') => i = m /\ b' = b /\ 0 <= i
  | none => i = -1) := by
 unfold zp
 rw [show zj 3000 3000 [([70, 76, 65, 71, 83] : List UInt8), ([43, 70, 76, 65, 71, 83] : List UInt8), ([45, 70, 76, 65, 71, 83] : List UInt8)] w (((List.length ([([70, 76, 65, 71, 83] : List UInt8), ([43, 70, 76, 65, 71, 83] : List UInt8), ([45, 70, 76, 65, 71, 83] : List UInt8)] : List (List UInt8))) : Nat) : Int) 0 = _ from zp5 w]
 unfold mW wF wP wM
 cases w == ([70, 76, 65, 71, 83] : List UInt8) with
 | true => exact ⟨0, rfl, rfl, rfl, by omega⟩
 | false =>
  cases w == ([43, 70, 76, 65, 71, 83] : List UInt8) with
  | true => exact ⟨1, rfl, rfl, rfl, by omega⟩
  | false =>
   cases w == ([45, 70, 76, 65, 71, 83] : List UInt8) with
   | true => exact ⟨2, rfl, rfl, rfl, by omega⟩
   | false => exact ⟨-1, rfl, rfl⟩
theorem ziN (u : List UInt8) (hl : u.length <= 2000) : ∃ (w : List UInt8) (b : Bool) (i : Int), zS 3000 u ([46, 83, 73, 76, 69, 78, 84] : List UInt8) = some (w, b, ()) /\ zp 3000 [([70, 76, 65, 71, 83] : List UInt8), ([43, 70, 76, 65, 71, 83] : List UInt8), ([45, 70, 76, 65, 71, 83] : List UInt8)] w = some (i, ()) /\ (match zjx u with
  | some (m, b') => i = m /\ b' = b /\ 0 <= i
  | none => i = -1) := by
 unfold zS qk qh zjx
 by_cases h7 : 7 <= u.length
 ·have e1 : decide ((((List.length ([46, 83, 73, 76, 69, 78, 84] : List UInt8)) : Nat) : Int) <= (((List.length u) : Nat) : Int)) = true := by simp; omega
  have e2 : IntKind.wrap .i64 ((((List.length u) : Nat) : Int) - (((List.length ([46, 83, 73, 76, 69, 78, 84] : List UInt8)) : Nat) : Int)) = ((u.length - 7 : Nat) : Int) := by
   rw [show (((List.length ([46, 83, 73, 76, 69, 78, 84] : List UInt8)) : Nat) : Int) = 7 from rfl, wri (by omega) (by omega)]; omega
  have e3 := qT (a := u.length - 7) (b := u.length) (n := u.length) (by omega) (by omega)
  have e4 := qT (a := 0) (b := u.length - 7) (n := u.length) (by omega) (by omega)
  rw [show ((0 : Nat) : Int) = (0 : Int) from rfl] at e4
  simp only [e1, cond_true, e2, e3, e4, Int.toNat_natCast, xu, jz, Option.bind_some]
  by_cases hw : u.drop (u.length - 7) = wS
  ·have e5 : (u.drop (u.length - 7) == ([46, 83, 73, 76, 69, 78, 84] : List UInt8)) = true := by rw [beq_iff_eq]; exact hw
   rw [e5, if_pos ⟨h7, hw⟩]
   simp only [Bool.not_true, cond_false, Option.bind_some]
   obtain ⟨i, h1, h2⟩ := zqY (u.take (u.length - 7)) true
   exact ⟨_, _, i, rfl, h1, h2⟩
  ·have e5 : (u.drop (u.length - 7) == ([46, 83, 73, 76, 69, 78, 84] : List UInt8)) = false := by
    cases e : u.drop (u.length - 7) == ([46, 83, 73, 76, 69, 78, 84] : List UInt8) with
    | false => rfl
    | true => rw [beq_iff_eq] at e; exact absurd e hw
   rw [e5, if_neg (fun h => hw h.2)]
   simp only [Bool.not_false, cond_true, Option.bind_some]
   obtain ⟨i, h1, h2⟩ := zqY u false
   exact ⟨_, _, i, rfl, h1, h2⟩
 ·have e1 : decide ((((List.length ([46, 83, 73, 76, 69, 78, 84] : List UInt8)) : Nat) : Int) <= (((List.length u) : Nat) : Int)) = false := by simp; omega
  rw [if_neg (fun h => h7 h.1)]
  simp only [e1, cond_false, Option.bind_some, Bool.not_false, cond_true]
  obtain ⟨i, h1, h2⟩ := zqY u false
  exact ⟨_, _, i, rfl, h1, h2⟩

def zd9 (tag : List UInt8) : El uS2 := (tag, (0, ([], ([], (0, (0, (false, (0, []))))))))
def zk1 (tag : List UInt8) (o : Option (El uS2)) : Option ((El uS2) × Bool × Unit) := some (match o with
 | some c => (c, true, ())
 | none => (zd9 tag, false, ()))
def cI (tag : List UInt8) (k : Int) (st : List (Int × Int)) (x : Int) : El uS2 := (tag, (k, ([], (st, (x, (0, (false, (0, []))))))))
def cS (tag : List UInt8) (k : Int) (st : List (Int × Int)) (m : Int) (b : Bool) (f : UInt8) : El uS2 := (tag, (k, ([], (st, (0, (m, (b, (f, []))))))))
def tk {A : Type} (k : Int) (l : List Tok) (f : Tok -> List Tok -> Option A) : Option A := match l with
 | [] => none
 | t :: r => if t.1 = k then f t r else none
def tkM {A : Type} (l : List Tok) (f : Tok -> List Tok -> Option A) : Option A := match l with
 | [] => none
 | t :: r => if zfb t = true then f t r else none
def tkE {A : Type} (l : List Tok) (x : A) : Option A := match l with
 | [] => some x
 | _ :: _ => none
theorem eqT {a b : Int} (h : a = b) : (a == b) = true := by rw [beq_iff_eq]; exact h
theorem eqF {a b : Int} (h : ¬ a = b) : (a == b) = false := by simpa using h
theorem neT {a b : Int} (h : ¬ a = b) : (a != b) = true := by simpa using h
theorem neF {a b : Int} (h : a = b) : (a != b) = false := by simpa using h
theorem zqe (tag : List UInt8) (kd : Int) (e : Tok) (he : e.1 = 0) (r : List Tok) (hk : ∀ t ∈ r, z7 t) : B1 3000 tag kd (r ++ [e]) = zk1 tag (tkE r (cA tag kd [] 0 [])) := by
 cases r with
 | nil =>
  simp only [List.nil_append]
  unfold B1
  simp only [qC, cond_true, cond_false, zI, qE, Option.bind_some, zn, Bool.and_true, Bool.not_true, eqT he]
  rfl
 | cons t r =>
  have h0 : ¬ t.1 = 0 := by have := (hk t (List.mem_cons_self ..)).1; omega
  simp only [List.cons_append]
  unfold B1
  simp only [qC, cond_true, zI, qE, Option.bind_some, zn, Bool.and_true, Bool.not_false, eqF h0]
  rfl
theorem zqa (tag : List UInt8) (kd : Int) (mb : List UInt8) (e : Tok) (he : e.1 = 0) (r : List Tok) (hk : ∀ t ∈ r, z7 t) : E5 3000 tag kd mb (r ++ [e]) = zk1 tag (tkE r (cA tag kd mb 0 [])) := by
 cases r with
 | nil =>
  simp only [List.nil_append]
  unfold E5
  simp only [qC, cond_true, cond_false, zI, qE, Option.bind_some, zn, Bool.and_true, Bool.not_true, eqT he]
  rfl
 | cons t r =>
  have h0 : ¬ t.1 = 0 := by have := (hk t (List.mem_cons_self ..)).1; omega
  simp only [List.cons_append]
  unfold E5
  simp only [qC, cond_true, zI, qE, Option.bind_some, zn, Bool.and_true, Bool.not_false, eqF h0]
  rfl
def zmE (tag : List UInt8) (kd : Int) (mb : List UInt8) (f : UInt8) (q : List Tok) : Option (El uS2) := match q with
 | [s, d] => if s.1 = 1 /\ d.1 = 6 then some (cA tag kd mb f d.2.1) else none
 | _ => none
theorem zmu (tag : List UInt8) (kd : Int) (mb : List UInt8) (f : UInt8) (e : Tok) (he : e.1 = 0) (z : Tok) (hz : z.1 = 3) (q : List Tok) (hk : ∀ t ∈ q, z7 t) : G6 3000 tag tag kd mb f (z :: (q ++ [e])) = zk1 tag (zmE tag kd mb f q) := by
 have f1 : ¬ e.1 = 1 := by omega
 have f6 : ¬ e.1 = 6 := by omega
 unfold G6
 simp only [qC, cond_true, cond_false, zI, qE, Option.bind_some, zt, zn, Bool.and_true, Bool.not_true, eqT hz]
 match q, hk with
 | [], _ => simp only [qC, cond_true, qE, zt, zn, Bool.not_false, List.nil_append, eqF f1]; rfl
 | [s], _ =>
  by_cases h1 : s.1 = 1
  ·simp only [qC, cond_true, cond_false, qE, zt, zn, Bool.not_true, Bool.not_false, List.cons_append, List.nil_append, eqT h1, eqF f6]; rfl
  ·simp only [qC, cond_true, qE, zt, zn, Bool.not_false, List.cons_append, List.nil_append, eqF h1]; rfl
 | [s, d], hk =>
  have eb := zbB (n := d.2.1.length) (by have := (hk d (by simp)).2.1; omega)
  by_cases h1 : s.1 = 1
  ·by_cases h6 : d.1 = 6
   ·simp only [qC, cond_true, cond_false, qE, zt, zn, Bool.not_true, List.cons_append, List.nil_append, eqT h1, eqT h6, eqT he, eb, zmE, if_pos (And.intro h1 h6)]; rfl
   ·simp only [qC, cond_true, cond_false, qE, zt, zn, Bool.not_true, Bool.not_false, List.cons_append, List.nil_append, eqT h1, eqF h6, zmE, if_neg (fun h : s.1 = 1 /\ d.1 = 6 => h6 h.2)]; rfl
  ·simp only [qC, cond_true, qE, zt, zn, Bool.not_false, List.cons_append, List.nil_append, eqF h1, zmE, if_neg (fun h : s.1 = 1 /\ d.1 = 6 => h1 h.1)]; rfl
 | s :: d :: t :: q, hk =>
  have eb := zbB (n := d.2.1.length) (by have := (hk d (by simp)).2.1; omega)
  have h0 : ¬ t.1 = 0 := by have := (hk t (by simp)).1; omega
  by_cases h1 : s.1 = 1
  ·by_cases h6 : d.1 = 6
   ·simp only [qC, cond_true, cond_false, qE, zt, zn, Bool.not_true, Bool.not_false, List.cons_append, eqT h1, eqT h6, eqF h0, eb, zmE]; rfl
   ·simp only [qC, cond_true, cond_false, qE, zt, zn, Bool.not_true, Bool.not_false, List.cons_append, eqT h1, eqF h6, zmE]; rfl
  ·simp only [qC, cond_true, qE, zt, zn, Bool.not_false, List.cons_append, eqF h1, zmE]; rfl
theorem zkC (tag : List UInt8) (kd : Int) (mb : List UInt8) (x : Int) (q : List Tok) : ((match some (x, q) with
  | some (x, [s, d]) => if s.1 = 1 /\ d.1 = 6 then some (zaw x, d.2.1) else none
  | _ => none : Option (UInt8 × List UInt8)).map fun p => cA tag kd mb p.1 p.2) = zmE tag kd mb (zaw x) q := by
 match q with
 | [] => rfl
 | [s] => rfl
 | [s, d] =>
  unfold zmE
  by_cases h : s.1 = 1 /\ d.1 = 6
  ·simp only [if_pos h, Option.map_some]
  ·simp only [if_neg h, Option.map_none]
 | s :: d :: t :: q => rfl
theorem zoR (tag : List UInt8) (kd : Int) (mb : List UInt8) (a : Tok) (h2 : a.1 = 2) (r : List Tok) : ((zex (a :: r)).map fun p => cA tag kd mb p.1 p.2) = match zbH r with
  | none => none
  | some ([], q) => zmE tag kd mb 0 q
  | some (t :: p, q) => (zq (fW false) orI 0 (t :: p)).bind fun x => zmE tag kd mb (zaw x) q := by
 cases r with
 | nil =>
  have h6 : ¬ a.1 = 6 := by omega
  simp only [zex, if_neg h6, zbH, Option.map_none]
 | cons b r =>
  unfold zex brS
  simp only [if_pos h2]
  cases hc : zbH (b :: r) with
  | none => rfl
  | some pq =>
   obtain ⟨p, q⟩ := pq
   cases p with
   | nil => simp only [cond_false]; exact zkC tag kd mb 0 q
   | cons t p =>
    simp only
    cases zq (fW false) orI 0 (t :: p) with
    | none => rfl
    | some x => simp only [Option.map_some, Option.bind_some]; exact zkC tag kd mb x q
theorem zks (r : List Tok) (e : Tok) : ∃ t r', r ++ [e] = t :: r' /\ (t = e \/ t ∈ r) := by
 cases r with
 | nil => exact ⟨e, [], rfl, .inl rfl⟩
 | cons t r => exact ⟨t, r ++ [e], rfl, .inr (List.mem_cons_self ..)⟩
theorem zp4 (tag : List UInt8) (kd : Int) (mb : List UInt8) (e : Tok) (he : e.1 = 0) (r : List Tok) (hl : r.length <= 2000) (hk : ∀ t ∈ r, z7 t) : D6 3000 tag kd mb (r ++ [e]) = zk1 tag ((zex r).map fun p => cA tag kd mb p.1 p.2) := by
 have f2 : ¬ e.1 = 2 := by omega
 have f6 : ¬ e.1 = 6 := by omega
 have f3 : ¬ e.1 = 3 := by omega
 cases r with
 | nil =>
  simp only [List.nil_append]
  unfold D6
  simp only [qC, cond_true, cond_false, zI, qE, Option.bind_some, zt, zn, Bool.and_true, Bool.not_false, eqF f2, eqF f6]
  rfl
 | cons a r =>
  have hkr : ∀ t ∈ r, z7 t := fun t ht => hk t (List.mem_cons_of_mem _ ht)
  by_cases h2 : a.1 = 2
  ·rw [zoR tag kd mb a h2 r]
   cases hc : zbH r with
   | none =>
    have hn := zaK hc
    have hl46 := zhy tag kd mb e [] (.inl he) r 0 3000 (fun t ht => ⟨hkr t ht, hn t ht⟩) (by simp only [List.length_cons] at hl; omega)
    have : ∃ y, zA 3000 3000 (r ++ [e]) tag kd mb 0 = some (.inl y) := by
     cases hw : zq fP orP 0 r with
     | none => rw [hw] at hl46; exact hl46
     | some x => rw [hw] at hl46; exact hl46.2 f3
    obtain ⟨y, hy⟩ := this
    obtain ⟨t, r', hr, ht⟩ := zks r e
    have ht3 : ¬ t.1 = 3 := by
     rcases ht with rfl | ht
     ·exact f3
     ·exact hn t ht
    simp only [List.cons_append]
    rw [hr] at hy |-
    unfold D6
    simp only [qC, cond_true, cond_false, zI, qE, Option.bind_some, zt, zn, Bool.and_true, Bool.not_true, eqT h2, neT ht3, hy, zk]
    rfl
   | some pq =>
    obtain ⟨p, q⟩ := pq
    obtain ⟨z, z1, z2, z3⟩ := wJ hc
    subst z2
    have hkq : ∀ t ∈ q, z7 t := fun t ht => hkr t (List.mem_append_right _ (List.mem_cons_of_mem _ ht))
    rw [show (a :: (p ++ z :: q)) ++ [e] = a :: (p ++ z :: (q ++ [e])) from by simp]
    cases p with
    | nil =>
     unfold D6
     simp only [qC, cond_true, cond_false, zI, qE, Option.bind_some, zt, zn, Bool.and_true, Bool.not_true, List.nil_append, eqT h2, neF z1, zmu tag kd mb _ e he z z1 q hkq]
    | cons t p =>
     have hl46 := zhy tag kd mb z (q ++ [e]) (.inr z1) (t :: p) 0 3000 (fun u hu => ⟨hkr u (List.mem_append_left _ hu), z3 u hu⟩) (by simp only [List.length_cons, List.length_append] at hl |-; omega)
     obtain ⟨o, o1, o2, o3⟩ := zkw (t :: p) 0 (by omega)
     rw [show UInt8.ofNat 0 = (0 : UInt8) from rfl] at o3
     rw [show ((0 : Nat) : Int) = (0 : Int) from rfl] at o2
     have ht3 := z3 t (List.mem_cons_self ..)
     unfold D6
     cases o with
     | none =>
      rw [o3] at hl46
      simp only [Option.map_none, List.cons_append] at hl46
      obtain ⟨y, hy⟩ := hl46
      simp only [qC, cond_true, cond_false, zI, qE, Option.bind_some, zt, zn, Bool.and_true, Bool.not_true, List.cons_append, eqT h2, neT ht3, hy, zk, o2, Option.map_none, Option.bind_none]
      rfl
     | some n =>
      rw [o3] at hl46
      simp only [Option.map_some, List.cons_append] at hl46
      have hy := hl46.1 z1
      have hn := o1 n rfl
      simp only [qC, cond_true, cond_false, zI, qE, Option.bind_some, zt, zn, Bool.and_true, Bool.not_true, List.cons_append, eqT h2, neT ht3, hy, zk, o2, Option.map_some, zmu tag kd mb _ e he z z1 q hkq, j3 (show n < 256 by omega)]
  ·simp only [List.cons_append]
   unfold D6
   by_cases h6 : a.1 = 6
   ·have eb := zbB (n := a.2.1.length) (by have := (hk a (by simp)).2.1; omega)
    cases r with
    | nil =>
     simp only [qC, cond_true, cond_false, zI, qE, Option.bind_some, zt, zn, Bool.and_true, Bool.not_true, Bool.not_false, List.nil_append, eqF h2, eqT h6, eb, eqT he, zex, if_pos h6]
     rfl
    | cons b r =>
     have h0 : ¬ b.1 = 0 := by have := (hkr b (by simp)).1; omega
     simp only [qC, cond_true, cond_false, zI, qE, Option.bind_some, zt, zn, Bool.and_true, Bool.not_true, Bool.not_false, List.cons_append, eqF h2, eqT h6, eb, eqF h0, zex, brS, if_neg h2]
     rfl
   ·have hs : zex (a :: r) = none := by
     cases r with
     | nil => simp only [zex, if_neg h6]
     | cons b r => simp only [zex, brS, if_neg h2]
    simp only [qC, cond_true, cond_false, zI, qE, Option.bind_some, zt, zn, Bool.and_true, Bool.not_false, eqF h2, eqF h6, hs]
    rfl
theorem zp1 (tag : List UInt8) (kd : Int) (mb : List UInt8) (e : Tok) (he : e.1 = 0) (r : List Tok) (hl : r.length <= 2000) (hk : ∀ t ∈ r, z7 t) : C6 3000 tag kd mb (r ++ [e]) = zk1 tag (tk 1 r fun _ r => (zex r).map fun p => cA tag kd mb p.1 p.2) := by
 have f1 : ¬ e.1 = 1 := by omega
 cases r with
 | nil =>
  simp only [List.nil_append]
  unfold C6
  simp only [qC, cond_true, zI, qE, Option.bind_some, zt, zn, Bool.and_true, Bool.not_false, eqF f1]
  rfl
 | cons s r =>
  simp only [List.cons_append]
  unfold C6
  by_cases h1 : s.1 = 1
  ·simp only [qC, cond_true, cond_false, zI, qE, Option.bind_some, zt, zn, Bool.and_true, Bool.not_true, eqT h1, tk, if_pos h1]
   exact zp4 tag kd mb e he r (by simp only [List.length_cons] at hl; omega) (fun t ht => hk t (List.mem_cons_of_mem _ ht))
  ·simp only [qC, cond_true, zI, qE, Option.bind_some, zt, zn, Bool.and_true, Bool.not_false, eqF h1, tk, if_neg h1]
   rfl
theorem zp2 (tag : List UInt8) (kd : Int) (e : Tok) (he : e.1 = 0) (r : List Tok) (hl : r.length <= 2000) (hk : ∀ t ∈ r, z7 t) : B5 3000 tag kd (r ++ [e]) = zk1 tag (tk 1 r fun _ r => tkM r fun m r => tkE r (cA tag kd m.2.1 0 [])) := by
 have f1 : ¬ e.1 = 1 := by omega
 have f4 : ¬ e.1 = 4 := by omega
 have f5 : ¬ e.1 = 5 := by omega
 have f6 : ¬ e.1 = 6 := by omega
 cases r with
 | nil =>
  simp only [List.nil_append]
  unfold B5
  simp only [qC, cond_true, zI, zge, qE, Option.bind_some, zt, zn, Bool.and_true, Bool.not_false, eqF f1]
  rfl
 | cons s r =>
  simp only [List.cons_append]
  unfold B5
  by_cases h1 : s.1 = 1
  ·cases r with
   | nil =>
    simp only [qC, cond_true, cond_false, zI, zge, qE, Option.bind_some, zt, zn, Bool.and_true, Bool.not_true, Bool.not_false, Bool.or_false, List.nil_append, eqT h1, eqF f4, eqF f5, eqF f6, tk, if_pos h1]
    rfl
   | cons m r =>
    have hkm := hk m (by simp)
    have hkr : ∀ t ∈ r, z7 t := fun t ht => hk t (List.mem_cons_of_mem _ (List.mem_cons_of_mem _ ht))
    have hlr : r.length <= 2000 := by simp only [List.length_cons] at hl; omega
    have hC := fun mb => zqa tag kd mb e he r  hkr
    by_cases h4 : m.1 = 4
    ·have hne : (m.2.1 != ([] : List UInt8)) = true := by simpa using (hkm.2.2 h4).1
     have hb := zpY 3000 m.2.1 (by have := hkm.2.1; omega) 3000 0 (by omega) (by have := hkm.2.1; omega)
     rw [show ((0 : Nat) : Int) = (0 : Int) from rfl, List.drop_zero] at hb
     have hS : zfb m = m.2.1.all zby := by unfold zfb; rw [if_pos h4]
     simp only [qC, cond_true, cond_false, zI, zge, qE, Option.bind_some, zt, zn, Bool.and_true, Bool.not_true, Bool.true_or, List.cons_append, eqT h1, eqT h4, neF h4, hne, hb, tk, if_pos h1, tkM, hS]
     cases m.2.1.all zby with
     | true => simp only [if_true, zk, hC]
     | false =>
      simp only [Bool.false_eq_true, if_false, zk]
      rfl
    ·have hS : zfb m = (m.1 == 5 || m.1 == 6) := by unfold zfb; rw [if_neg h4]
     simp only [qC, cond_true, cond_false, zI, zge, qE, Option.bind_some, zt, zn, Bool.and_true, Bool.not_true, Bool.false_or, List.cons_append, eqT h1, eqF h4, neT h4, tk, if_pos h1, tkM, hS]
     cases (m.1 == (5 : Int) || m.1 == (6 : Int)) with
     | true => simp only [cond_false, Bool.not_true, if_true, hC]
     | false =>
      simp only [cond_true, Bool.not_false, Bool.false_eq_true, if_false]
      rfl
  ·simp only [qC, cond_true, zI, zge, qE, Option.bind_some, zt, zn, Bool.and_true, Bool.not_false, eqF h1, tk, if_neg h1]
   rfl
theorem zrc (tag : List UInt8) (kd : Int) (e : Tok) (he : e.1 = 0) (r : List Tok) (hl : r.length <= 2000) (hk : ∀ t ∈ r, z7 t) : B6 3000 tag kd (r ++ [e]) = zk1 tag (tk 1 r fun _ r => tkM r fun m r => tk 1 r fun _ r => (zex r).map fun p => cA tag kd m.2.1 p.1 p.2) := by
 have f1 : ¬ e.1 = 1 := by omega
 have f4 : ¬ e.1 = 4 := by omega
 have f5 : ¬ e.1 = 5 := by omega
 have f6 : ¬ e.1 = 6 := by omega
 cases r with
 | nil =>
  simp only [List.nil_append]
  unfold B6
  simp only [qC, cond_true, zI, zge, qE, Option.bind_some, zt, zn, Bool.and_true, Bool.not_false, eqF f1]
  rfl
 | cons s r =>
  simp only [List.cons_append]
  unfold B6
  by_cases h1 : s.1 = 1
  ·cases r with
   | nil =>
    simp only [qC, cond_true, cond_false, zI, zge, qE, Option.bind_some, zt, zn, Bool.and_true, Bool.not_true, Bool.not_false, Bool.or_false, List.nil_append, eqT h1, eqF f4, eqF f5, eqF f6, tk, if_pos h1]
    rfl
   | cons m r =>
    have hkm := hk m (by simp)
    have hkr : ∀ t ∈ r, z7 t := fun t ht => hk t (List.mem_cons_of_mem _ (List.mem_cons_of_mem _ ht))
    have hlr : r.length <= 2000 := by simp only [List.length_cons] at hl; omega
    have hC := fun mb => zp1 tag kd mb e he r hlr hkr
    by_cases h4 : m.1 = 4
    ·have hne : (m.2.1 != ([] : List UInt8)) = true := by simpa using (hkm.2.2 h4).1
     have hb := zpr 3000 m.2.1 (by have := hkm.2.1; omega) 3000 0 (by omega) (by have := hkm.2.1; omega)
     rw [show ((0 : Nat) : Int) = (0 : Int) from rfl, List.drop_zero] at hb
     have hS : zfb m = m.2.1.all zby := by unfold zfb; rw [if_pos h4]
     simp only [qC, cond_true, cond_false, zI, zge, qE, Option.bind_some, zt, zn, Bool.and_true, Bool.not_true, Bool.true_or, List.cons_append, eqT h1, eqT h4, neF h4, hne, hb, tk, if_pos h1, tkM, hS]
     cases m.2.1.all zby with
     | true => simp only [if_true, zk, hC]; rfl
     | false =>
      simp only [Bool.false_eq_true, if_false, zk]
      rfl
    ·have hS : zfb m = (m.1 == 5 || m.1 == 6) := by unfold zfb; rw [if_neg h4]
     simp only [qC, cond_true, cond_false, zI, zge, qE, Option.bind_some, zt, zn, Bool.and_true, Bool.not_true, Bool.false_or, List.cons_append, eqT h1, eqF h4, neT h4, tk, if_pos h1, tkM, hS]
     cases (m.1 == (5 : Int) || m.1 == (6 : Int)) with
     | true => simp only [cond_false, Bool.not_true, if_true, hC]; rfl
     | false =>
      simp only [cond_true, Bool.not_false, Bool.false_eq_true, if_false]
      rfl
  ·simp only [qC, cond_true, zI, zge, qE, Option.bind_some, zt, zn, Bool.and_true, Bool.not_false, eqF h1, tk, if_neg h1]
   rfl
def itS : List Tok -> Option Int
 | [] => none
 | [w] => if w.1 = 4 then (fW true w.2.1).map (orI 0) else none
 | a :: b :: r => zgb (brS true (a :: b :: r))
theorem zoK (x : Int) (q : List Tok) : zgb (some (x, q)) = tkE q x := by cases q <;> rfl
theorem zqc (a : Tok) (h2 : a.1 = 2) (r : List Tok) : itS (a :: r) = match zbH r with
  | none => none
  | some (p, q) => (zq (fW true) orI 0 p).bind fun x => tkE q x := by
 cases r with
 | nil =>
  have h4 : ¬ a.1 = 4 := by omega
  simp only [itS, if_neg h4, zbH]
 | cons b r =>
  unfold itS brS
  simp only [if_pos h2]
  cases hc : zbH (b :: r) with
  | none => rfl
  | some pq =>
   obtain ⟨p, q⟩ := pq
   cases p with
   | nil => rfl
   | cons t p =>
    simp only
    cases zq (fW true) orI 0 (t :: p) with
    | none => rfl
    | some x => simp only [Option.map_some, Option.bind_some, zoK]
theorem zq1 (tag : List UInt8) (kd : Int) (st : List (Int × Int)) (e : Tok) (he : e.1 = 0) (r : List Tok) (hl : r.length <= 2000) (hk : ∀ t ∈ r, z7 t) : D7 3000 tag kd st (r ++ [e]) = zk1 tag ((itS r).map fun x => cI tag kd st x) := by
 have f2 : ¬ e.1 = 2 := by omega
 have f4 : ¬ e.1 = 4 := by omega
 have f3 : ¬ e.1 = 3 := by omega
 cases r with
 | nil =>
  simp only [List.nil_append]
  unfold D7
  simp only [qC, cond_true, zI, qE, Option.bind_some, zt, zn, Bool.and_true, Bool.not_false, neT f2, eqF f4]
  rfl
 | cons a r =>
  have hkr : ∀ t ∈ r, z7 t := fun t ht => hk t (List.mem_cons_of_mem _ ht)
  by_cases h2 : a.1 = 2
  ·rw [zqc a h2 r]
   cases hc : zbH r with
   | none =>
    have hn := zaK hc
    have hl144 := zfo tag kd st 0 e [] (.inl he) r 0 3000 (fun t ht => ⟨hkr t ht, hn t ht⟩) (by simp only [List.length_cons] at hl; omega)
    have : ∃ y, zy 3000 3000 (r ++ [e]) tag kd st 0 0 = some (.inl y) := by
     cases hw : zq (fW true) orI 0 r with
     | none => rw [hw] at hl144; exact hl144
     | some x => rw [hw] at hl144; exact hl144.2 f3
    obtain ⟨y, hy⟩ := this
    simp only [List.cons_append]
    unfold D7
    simp only [qC, cond_true, cond_false, zI, qE, Option.bind_some, zt, zn, Bool.and_true, Bool.not_true, neF h2, eqT h2, hy, zk]
    rfl
   | some pq =>
    obtain ⟨p, q⟩ := pq
    obtain ⟨z, z1, z2, z3⟩ := wJ hc
    subst z2
    have hkq : ∀ t ∈ q, z7 t := fun t ht => hkr t (List.mem_append_right _ (List.mem_cons_of_mem _ ht))
    rw [show (a :: (p ++ z :: q)) ++ [e] = a :: (p ++ z :: (q ++ [e])) from by simp]
    have hl144 := zfo tag kd st 0 z (q ++ [e]) (.inr z1) p 0 3000 (fun u hu => ⟨hkr u (List.mem_append_left _ hu), z3 u hu⟩) (by simp only [List.length_cons, List.length_append] at hl |-; omega)
    unfold D7
    cases hw : zq (fW true) orI 0 p with
    | none =>
     rw [hw] at hl144
     obtain ⟨y, hy⟩ := hl144
     simp only [qC, cond_true, cond_false, zI, qE, Option.bind_some, zt, zn, Bool.and_true, Bool.not_true, neF h2, eqT h2, hy, zk, hw, Option.bind_none]
     rfl
    | some x =>
     rw [hw] at hl144
     have hy := hl144.1 z1
     cases q with
     | nil =>
      simp only [List.nil_append] at hy
      simp only [qC, cond_true, cond_false, zI, qE, Option.bind_some, zt, zn, Bool.and_true, Bool.not_true, List.nil_append, neF h2, eqT h2, hy, zk, hw, eqT z1, eqT he]
      rfl
     | cons t q =>
      have h0 : ¬ t.1 = 0 := by have := (hkq t (List.mem_cons_self ..)).1; omega
      simp only [List.cons_append] at hy
      simp only [qC, cond_true, cond_false, zI, qE, Option.bind_some, zt, zn, Bool.and_true, Bool.not_true, Bool.not_false, List.cons_append, neF h2, eqT h2, hy, zk, hw, eqT z1, eqF h0]
      rfl
  ·have hka := hk a (List.mem_cons_self ..)
   have hi := zhf _ hka.2.1
   simp only [List.cons_append]
   unfold D7
   by_cases h4 : a.1 = 4
   ·by_cases h0 : kr a.2.1 = 0
    ·have hd : decide (0 < kr a.2.1) = false := by simp; omega
     have hs : itS (a :: r) = none := by
      cases r with
      | nil => simp only [itS, if_pos h4, zjF h0, Option.map_none]
      | cons b r => simp only [itS, brS, if_neg h2, zgb]
     simp only [qC, cond_true, cond_false, zI, qE, Option.bind_some, zt, zn, Bool.and_true, Bool.not_true, Bool.not_false, neT h2, eqT h4, zbU _ hka.2.1, hd, hs]
     rfl
    ·have hd : decide (0 < kr a.2.1) = true := by simp; omega
     cases r with
     | nil =>
      simp only [qC, cond_true, cond_false, zI, qE, Option.bind_some, zt, zn, Bool.and_true, Bool.not_true, List.nil_append, neT h2, eqT h4, zbU _ hka.2.1, hd, itS, if_pos h4, zjp h0, Option.map_some, eqT he]
      rfl
     | cons b r =>
      have hb0 : ¬ b.1 = 0 := by have := (hkr b (List.mem_cons_self ..)).1; omega
      have hs : itS (a :: b :: r) = none := by simp only [itS, brS, if_neg h2, zgb]
      simp only [qC, cond_true, cond_false, zI, qE, Option.bind_some, zt, zn, Bool.and_true, Bool.not_true, Bool.not_false, List.cons_append, neT h2, eqT h4, zbU _ hka.2.1, hd, hs, eqF hb0]
      rfl
   ·have hs : itS (a :: r) = none := by
     cases r with
     | nil => simp only [itS, if_neg h4]
     | cons b r => simp only [itS, brS, if_neg h2, zgb]
    simp only [qC, cond_true, zI, qE, Option.bind_some, zt, zn, Bool.and_true, Bool.not_false, neT h2, eqF h4, hs]
    rfl
theorem zms (tag : List UInt8) (kd : Int) (st : List (Int × Int)) (md : Int) (sl : Bool) (f : UInt8) (e : Tok) (he : e.1 = 0) (z : Tok) (hz : z.1 = 3) (q : List Tok) (hk : ∀ t ∈ q, z7 t) : G8 3000 tag tag kd st md sl f (z :: (q ++ [e])) = zk1 tag (tkE q (cS tag kd st md sl f)) := by
 unfold G8
 cases q with
 | nil => simp only [qC, cond_true, cond_false, zI, qE, Option.bind_some, zt, zn, Bool.and_true, Bool.not_true, List.nil_append, eqT hz, eqT he]; rfl
 | cons t q =>
  have h0 : ¬ t.1 = 0 := by have := (hk t (List.mem_cons_self ..)).1; omega
  simp only [qC, cond_true, cond_false, zI, qE, Option.bind_some, zt, zn, Bool.and_true, Bool.not_true, Bool.not_false, List.cons_append, eqT hz, eqF h0]; rfl
def zjO (r : List Tok) : Option UInt8 := (match zgb (brS false r) with
 | some x => some x
 | none => zq (fW false) orI 0 r).map zaw
theorem znp (a : Tok) (h2 : a.1 = 2) (r : List Tok) : zjO (a :: r) = match zbH r with
  | none => none
  | some ([], q) => tkE q 0
  | some (t :: p, q) => (zq (fW false) orI 0 (t :: p)).bind fun x => tkE q (zaw x) := by
 have h4 : ¬ a.1 = 4 := by omega
 have hw : zq (fW false) orI 0 (a :: r) = none := by
  cases r with
  | nil => simp only [zq, if_neg h4]
  | cons b r => simp only [zq, if_neg h4]
 unfold zjO
 rw [hw]
 simp only [brS, if_pos h2]
 cases hc : zbH r with
 | none => rfl
 | some pq =>
  obtain ⟨p, q⟩ := pq
  cases p with
  | nil => cases q <;> rfl
  | cons t p =>
   simp only
   cases zq (fW false) orI 0 (t :: p) with
   | none => rfl
   | some x => cases q <;> rfl
theorem zno (r : List Tok) (h : brS false r = none) : zjO r = (zq (fW false) orI 0 r).map zaw := by
 unfold zjO
 rw [h]; rfl
theorem zkP (tag : List UInt8) (kd : Int) (st : List (Int × Int)) (md : Int) (sl : Bool) (e : Tok) (he : e.1 = 0) (r : List Tok) (hl : r.length <= 2000) (hk : ∀ t ∈ r, z7 t) (hb : brS false r = none) (t : Tok) (r' : List Tok) (hr : r ++ [e] = t :: r') (h2 : ¬ t.1 = 2) : D8 3000 tag kd st md sl (r ++ [e]) = zk1 tag ((zjO r).map fun f => cS tag kd st md sl f) := by
 rw [zno r hb]
 have h206 := ziz tag kd st md sl e [] (.inl he) r 0 3000 (fun u hu => ⟨hk u hu, by have := (hk u hu).1; omega⟩) (by omega)
 obtain ⟨o, o1, o2, o3⟩ := zkw r 0 (by omega)
 rw [show UInt8.ofNat 0 = (0 : UInt8) from rfl] at o3
 rw [show ((0 : Nat) : Int) = (0 : Int) from rfl] at o2
 rw [hr] at h206 |-
 unfold D8
 cases o with
 | none =>
  rw [o3] at h206
  simp only [Option.map_none] at h206
  obtain ⟨y, hy⟩ := h206
  simp only [qC, cond_true, cond_false, zI, qE, Option.bind_some, zt, zn, Bool.and_true, Bool.not_false, eqF h2, hy, zk, o2, Option.map_none]
  rfl
 | some n =>
  rw [o3] at h206
  simp only [Option.map_some] at h206
  have hy := h206.1 he
  have hn := o1 n rfl
  simp only [qC, cond_true, cond_false, zI, qE, Option.bind_some, zt, zn, Bool.and_true, Bool.not_true, Bool.not_false, eqF h2, hy, zk, o2, Option.map_some, eqT he, j3 (show n < 256 by omega)]
  rfl
theorem zqR (tag : List UInt8) (kd : Int) (st : List (Int × Int)) (md : Int) (sl : Bool) (e : Tok) (he : e.1 = 0) (r : List Tok) (hl : r.length <= 2000) (hk : ∀ t ∈ r, z7 t) : D8 3000 tag kd st md sl (r ++ [e]) = zk1 tag ((zjO r).map fun f => cS tag kd st md sl f) := by
 have f2 : ¬ e.1 = 2 := by omega
 have f3 : ¬ e.1 = 3 := by omega
 cases r with
 | nil => exact zkP tag kd st md sl e he [] (by simp) (fun _ h => by cases h) rfl e [] rfl f2
 | cons a r =>
  have hkr : ∀ t ∈ r, z7 t := fun t ht => hk t (List.mem_cons_of_mem _ ht)
  by_cases h2 : a.1 = 2
  ·rw [znp a h2 r]
   cases hc : zbH r with
   | none =>
    have hn := zaK hc
    have hl179 := zf7 tag kd st md sl e [] (.inl he) r 0 3000 (fun t ht => ⟨hkr t ht, hn t ht⟩) (by simp only [List.length_cons] at hl; omega)
    have : ∃ y, zz 3000 3000 (r ++ [e]) tag kd st md sl 0 = some (.inl y) := by
     cases hw : zq fP orP 0 r with
     | none => rw [hw] at hl179; exact hl179
     | some x => rw [hw] at hl179; exact hl179.2 f3
    obtain ⟨y, hy⟩ := this
    obtain ⟨t, r', hr, ht⟩ := zks r e
    have ht3 : ¬ t.1 = 3 := by
     rcases ht with rfl | ht
     ·exact f3
     ·exact hn t ht
    simp only [List.cons_append]
    rw [hr] at hy |-
    unfold D8
    simp only [qC, cond_true, cond_false, zI, qE, Option.bind_some, zt, zn, Bool.and_true, Bool.not_true, eqT h2, neT ht3, hy, zk]
    rfl
   | some pq =>
    obtain ⟨p, q⟩ := pq
    obtain ⟨z, z1, z2, z3⟩ := wJ hc
    subst z2
    have hkq : ∀ t ∈ q, z7 t := fun t ht => hkr t (List.mem_append_right _ (List.mem_cons_of_mem _ ht))
    rw [show (a :: (p ++ z :: q)) ++ [e] = a :: (p ++ z :: (q ++ [e])) from by simp]
    cases p with
    | nil =>
     unfold D8
     simp only [qC, cond_true, cond_false, zI, qE, Option.bind_some, zt, zn, Bool.and_true, Bool.not_true, List.nil_append, eqT h2, neF z1, zms tag kd st md sl _ e he z z1 q hkq]
     cases q <;> rfl
    | cons t p =>
     have hl179 := zf7 tag kd st md sl z (q ++ [e]) (.inr z1) (t :: p) 0 3000 (fun u hu => ⟨hkr u (List.mem_append_left _ hu), z3 u hu⟩) (by simp only [List.length_cons, List.length_append] at hl |-; omega)
     obtain ⟨o, o1, o2, o3⟩ := zkw (t :: p) 0 (by omega)
     rw [show UInt8.ofNat 0 = (0 : UInt8) from rfl] at o3
     rw [show ((0 : Nat) : Int) = (0 : Int) from rfl] at o2
     have ht3 := z3 t (List.mem_cons_self ..)
     unfold D8
     cases o with
     | none =>
      rw [o3] at hl179
      simp only [Option.map_none, List.cons_append] at hl179
      obtain ⟨y, hy⟩ := hl179
      simp only [qC, cond_true, cond_false, zI, qE, Option.bind_some, zt, zn, Bool.and_true, Bool.not_true, List.cons_append, eqT h2, neT ht3, hy, zk, o2, Option.map_none, Option.bind_none]
      rfl
     | some n =>
      rw [o3] at hl179
      simp only [Option.map_some, List.cons_append] at hl179
      have hy := hl179.1 z1
      have hn := o1 n rfl
      simp only [qC, cond_true, cond_false, zI, qE, Option.bind_some, zt, zn, Bool.and_true, Bool.not_true, List.cons_append, eqT h2, neT ht3, hy, zk, o2, Option.map_some, zms tag kd st md sl _ e he z z1 q hkq, j3 (show n < 256 by omega)]
      cases q <;> rfl
  ·exact zkP tag kd st md sl e he (a :: r) hl hk (by simp only [brS, if_neg h2]) a (r ++ [e]) rfl h2
def zhG (s : List UInt8) : Option (List (Int × Int)) := qS (qc 44 s)
theorem ziD (s : List UInt8) (hs : s.length <= 2000) : jy 3000 s = some (match zhG s with
  | some l => (l, true, ())
  | none => ([], false, ())) := zoQ s hs
theorem zpc (s : List UInt8) (hs : s.length <= 2000) : wB 3000 s = some (match zhG s with
  | some l => (l, true, ())
  | none => ([], false, ())) := zp0 s hs
def SB7 (tag : List UInt8) (kd : Int) (r : List Tok) : Option (El uS2) := tk 1 r fun _ r => tk 4 r fun t r => (zhG t.2.1).bind fun st => tk 1 r fun _ r => (itS r).map fun x => cI tag kd st x
def SB8 (tag : List UInt8) (kd : Int) (r : List Tok) : Option (El uS2) := tk 1 r fun _ r => tk 4 r fun t r => (zhG t.2.1).bind fun st => tk 1 r fun _ r => tk 4 r fun w r => (zdW w.2.1).bind fun mb => tk 1 r fun _ r => (zjO r).map fun f => cS tag kd st mb.1 mb.2 f
theorem zqA (tag : List UInt8) (kd : Int) (e : Tok) (he : e.1 = 0) (r : List Tok) (hl : r.length <= 2000) (hk : ∀ t ∈ r, z7 t) : B7 3000 tag kd (r ++ [e]) = zk1 tag (SB7 tag kd r) := by
 have f1 : ¬ e.1 = 1 := by omega
 have f4 : ¬ e.1 = 4 := by omega
 unfold SB7
 cases r with
 | nil =>
  simp only [List.nil_append]
  unfold B7
  simp only [qC, cond_true, zI, qE, Option.bind_some, zt, zn, Bool.and_true, Bool.not_false, eqF f1]
  rfl
 | cons s r =>
  simp only [List.cons_append]
  unfold B7
  by_cases h1 : s.1 = 1
  ·cases r with
   | nil =>
    simp only [qC, cond_true, cond_false, zI, qE, Option.bind_some, zt, zn, Bool.and_true, Bool.not_true, Bool.not_false, List.nil_append, eqT h1, eqF f4, tk, if_pos h1]
    rfl
   | cons t r =>
    have hkt := hk t (by simp)
    by_cases h4 : t.1 = 4
    ·have hset := ziD t.2.1 hkt.2.1
     cases hs : zhG t.2.1 with
     | none =>
      rw [hs] at hset
      simp only [qC, cond_true, cond_false, zI, qE, Option.bind_some, zt, zn, Bool.and_true, Bool.not_true, Bool.not_false, List.cons_append, eqT h1, eqT h4, hset, tk, if_pos h1, if_pos h4, hs, Option.bind_none]
      rfl
     | some st =>
      rw [hs] at hset
      cases r with
      | nil =>
       simp only [qC, cond_true, cond_false, zI, qE, Option.bind_some, zt, zn, Bool.and_true, Bool.not_true, Bool.not_false, List.cons_append, List.nil_append, eqT h1, eqT h4, hset, eqF f1, tk, if_pos h1, if_pos h4, hs]
       rfl
      | cons s2 r =>
       have hkr : ∀ t ∈ r, z7 t := fun u hu => hk u (List.mem_cons_of_mem _ (List.mem_cons_of_mem _ (List.mem_cons_of_mem _ hu)))
       have hlr : r.length <= 2000 := by simp only [List.length_cons] at hl; omega
       by_cases h5 : s2.1 = 1
       ·simp only [qC, cond_true, cond_false, zI, qE, Option.bind_some, zt, zn, Bool.and_true, Bool.not_true, List.cons_append, eqT h1, eqT h4, hset, eqT h5, tk, if_pos h1, if_pos h4, hs, if_pos h5]
        exact zq1 tag kd st e he r hlr hkr
       ·simp only [qC, cond_true, cond_false, zI, qE, Option.bind_some, zt, zn, Bool.and_true, Bool.not_true, Bool.not_false, List.cons_append, eqT h1, eqT h4, hset, eqF h5, tk, if_pos h1, if_pos h4, hs, if_neg h5]
        rfl
    ·simp only [qC, cond_true, cond_false, zI, qE, Option.bind_some, zt, zn, Bool.and_true, Bool.not_true, Bool.not_false, List.cons_append, eqT h1, eqF h4, tk, if_pos h1, if_neg h4]
     rfl
  ·simp only [qC, cond_true, zI, qE, Option.bind_some, zt, zn, Bool.and_true, Bool.not_false, eqF h1, tk, if_neg h1]
   rfl
theorem zqz (tag : List UInt8) (kd : Int) (e : Tok) (he : e.1 = 0) (r : List Tok) (hl : r.length <= 2000) (hk : ∀ t ∈ r, z7 t) : B8 3000 tag kd (r ++ [e]) = zk1 tag (SB8 tag kd r) := by
 have f1 : ¬ e.1 = 1 := by omega
 have f4 : ¬ e.1 = 4 := by omega
 unfold SB8
 cases r with
 | nil =>
  simp only [List.nil_append]
  unfold B8
  simp only [qC, cond_true, zI, qE, Option.bind_some, zt, zn, Bool.and_true, Bool.not_false, eqF f1]
  rfl
 | cons s r =>
  simp only [List.cons_append]
  unfold B8
  by_cases h1 : s.1 = 1
  ·cases r with
   | nil =>
    simp only [qC, cond_true, cond_false, zI, qE, Option.bind_some, zt, zn, Bool.and_true, Bool.not_true, Bool.not_false, List.nil_append, eqT h1, eqF f4, tk, if_pos h1]
    rfl
   | cons t r =>
    have hkt := hk t (by simp)
    by_cases h4 : t.1 = 4
    ·have hset := ziD t.2.1 hkt.2.1
     cases hs : zhG t.2.1 with
     | none =>
      rw [hs] at hset
      simp only [qC, cond_true, cond_false, zI, qE, Option.bind_some, zt, zn, Bool.and_true, Bool.not_true, Bool.not_false, List.cons_append, eqT h1, eqT h4, hset, tk, if_pos h1, if_pos h4, hs, Option.bind_none]
      rfl
     | some st =>
      rw [hs] at hset
      cases r with
      | nil =>
       simp only [qC, cond_true, cond_false, zI, qE, Option.bind_some, zt, zn, Bool.and_true, Bool.not_true, Bool.not_false, List.cons_append, List.nil_append, eqT h1, eqT h4, hset, eqF f1, tk, if_pos h1, if_pos h4, hs]
       rfl
      | cons s2 r =>
       have hkr : ∀ t ∈ r, z7 t := fun u hu => hk u (List.mem_cons_of_mem _ (List.mem_cons_of_mem _ (List.mem_cons_of_mem _ hu)))
       have hlr : r.length <= 2000 := by simp only [List.length_cons] at hl; omega
       by_cases h5 : s2.1 = 1
       ·simp only [qC, cond_true, cond_false, zI, qE, Option.bind_some, zt, zn, Bool.and_true, Bool.not_true, List.cons_append, eqT h1, eqT h4, hset, eqT h5, tk, if_pos h1, if_pos h4, hs, if_pos h5]
        cases r with
        | nil =>
         simp only [qC, cond_true, qE, zt, zn, Bool.not_false, List.nil_append, eqF f4]
         rfl
        | cons w r =>
         have hkw := hkr w (by simp)
         by_cases h6 : w.1 = 4
         ·have hup := zca w.2.1 hkw.2.1
          obtain ⟨u, b, i, hcut, hix, hmo⟩ := ziN (w.2.1.map up) (by rw [List.length_map]; exact hkw.2.1)
          have hmS : zdW w.2.1 = zjx (w.2.1.map up) := rfl
          cases hm : zjx (w.2.1.map up) with
          | none =>
           rw [hm] at hmo
           simp only at hmo
           have hd : decide ((0 : Int) <= i) = false := by rw [hmo]; rfl
           simp only [qC, cond_true, cond_false, qE, Option.bind_some, zt, zn, Bool.not_true, Bool.not_false, List.cons_append, eqT h6, hup, hcut, hix, hd, if_pos h6, hmS, hm, Option.bind_none]
           rfl
          | some mb =>
           obtain ⟨m, b'⟩ := mb
           rw [hm] at hmo
           obtain ⟨hm1, hm2, hm3⟩ := hmo
           subst hm1 hm2
           have hd : decide ((0 : Int) <= i) = true := by simpa using hm3
           cases r with
           | nil =>
            simp only [qC, cond_true, cond_false, qE, Option.bind_some, zt, zn, Bool.not_true, Bool.not_false, List.cons_append, List.nil_append, eqT h6, hup, hcut, hix, hd, if_pos h6, hmS, hm, eqF f1]
            rfl
           | cons s3 r =>
            by_cases h7 : s3.1 = 1
            ·simp only [qC, cond_true, cond_false, qE, Option.bind_some, zt, zn, Bool.not_true, List.cons_append, eqT h6, hup, hcut, hix, hd, if_pos h6, hmS, hm, eqT h7, if_pos h7]
             exact zqR tag kd st i b' e he r (by simp only [List.length_cons] at hlr; omega) (fun u hu => hkr u (List.mem_cons_of_mem _ (List.mem_cons_of_mem _ hu)))
            ·simp only [qC, cond_true, cond_false, qE, Option.bind_some, zt, zn, Bool.not_true, Bool.not_false, List.cons_append, eqT h6, hup, hcut, hix, hd, if_pos h6, hmS, hm, eqF h7, if_neg h7]
             rfl
         ·simp only [qC, cond_true, qE, zt, zn, Bool.not_false, List.cons_append, eqF h6, if_neg h6]
          rfl
       ·simp only [qC, cond_true, cond_false, zI, qE, Option.bind_some, zt, zn, Bool.and_true, Bool.not_true, Bool.not_false, List.cons_append, eqT h1, eqT h4, hset, eqF h5, tk, if_pos h1, if_pos h4, hs, if_neg h5]
        rfl
    ·simp only [qC, cond_true, cond_false, zI, qE, Option.bind_some, zt, zn, Bool.and_true, Bool.not_true, Bool.not_false, List.cons_append, eqT h1, eqF h4, tk, if_pos h1, if_neg h4]
     rfl
  ·simp only [qC, cond_true, zI, qE, Option.bind_some, zt, zn, Bool.and_true, Bool.not_false, eqF h1, tk, if_neg h1]
   rfl
def SB5 (tag : List UInt8) (kd : Int) (r : List Tok) : Option (El uS2) := tk 1 r fun _ r => tkM r fun m r => tkE r (cA tag kd m.2.1 0 [])
def SB6 (tag : List UInt8) (kd : Int) (r : List Tok) : Option (El uS2) := tk 1 r fun _ r => tkM r fun m r => tk 1 r fun _ r => (zex r).map fun p => cA tag kd m.2.1 p.1 p.2
def zeb (tag : List UInt8) (r : List Tok) : Option (El uS2) := tk 4 r fun w r =>
 if kK w.2.1 = 0 then none
 else if kK w.2.1 <= 4 then tkE r (cA tag (kK w.2.1) [] 0 [])
 else if kK w.2.1 = 5 then SB5 tag (kK w.2.1) r
 else if kK w.2.1 = 6 then SB6 tag (kK w.2.1) r
 else if kK w.2.1 = 7 then SB7 tag (kK w.2.1) r
 else SB8 tag (kK w.2.1) r
def BR (o : Option ((El uS2) × Bool × Unit)) (s : Option (El uS2)) : Prop := match s with
 | some c => o = some (c, true, ())
 | none => ∃ c, o = some (c, false, ())
theorem kl {c : El uS2} {s : Option (El uS2)} (h : s = none) : BR (some (c, false, ())) s := by
 rw [h]; exact ⟨c, rfl⟩
theorem zkz {α : Type} {l : List α} {k n : Nat} (h : k <= l.length) (hn : n <= k) : decide ((((List.length l) : Nat) : Int) < ((n : Nat) : Int)) = false := by simp; omega
theorem zkR {α : Type} {l : List α} {n : Nat} (h : l.length ≠ n) : ((((List.length l) : Nat) : Int) == ((n : Nat) : Int)) = false := by simp; omega
theorem zmq (tag : List UInt8) (kd : Int) (a : Tok) : SB5 tag kd [] = none /\ SB5 tag kd [a] = none := ⟨rfl, by
 unfold SB5 tk tkM
 by_cases h : a.1 = 1
 ·simp only [if_pos h]
 ·simp only [if_neg h]⟩
theorem zl9 (tag : List UInt8) (kd : Int) (a : Tok) : SB6 tag kd [] = none /\ SB6 tag kd [a] = none := ⟨rfl, by
 unfold SB6 tk tkM
 by_cases h : a.1 = 1
 ·simp only [if_pos h]
 ·simp only [if_neg h]⟩
theorem zm7 (tag : List UInt8) (kd : Int) (a : Tok) : SB7 tag kd [] = none /\ SB7 tag kd [a] = none := ⟨rfl, by
 unfold SB7
 by_cases h : a.1 = 1
 ·simp only [tk, if_pos h]
 ·simp only [tk, if_neg h]⟩
theorem zmL (tag : List UInt8) (kd : Int) (a : Tok) : SB8 tag kd [] = none /\ SB8 tag kd [a] = none := ⟨rfl, by
 unfold SB8
 by_cases h : a.1 = 1
 ·simp only [tk, if_pos h]
 ·simp only [tk, if_neg h]⟩
theorem zsd (tag : List UInt8) (kd : Int) (s m : Tok) (r : List Tok) : SB7 tag kd (s :: m :: r) = if s.1 = 1 /\ m.1 = 4 then (zhG m.2.1).bind fun st => tk 1 r fun _ r => (itS r).map fun x => cI tag kd st x else none := by
 unfold SB7
 by_cases h1 : s.1 = 1
 ·by_cases h4 : m.1 = 4
  ·rw [if_pos ⟨h1, h4⟩]
   simp only [tk, if_pos h1, if_pos h4]
  ·rw [if_neg (fun h => h4 h.2)]
   simp only [tk, if_pos h1, if_neg h4]
 ·rw [if_neg (fun h => h1 h.1)]
  simp only [tk, if_neg h1]
theorem zrB (tag : List UInt8) (kd : Int) (s m : Tok) (r : List Tok) : SB8 tag kd (s :: m :: r) = if s.1 = 1 /\ m.1 = 4 then (zhG m.2.1).bind fun st => tk 1 r fun _ r => tk 4 r fun w r => (zdW w.2.1).bind fun mb => tk 1 r fun _ r => (zjO r).map fun f => cS tag kd st mb.1 mb.2 f else none := by
 unfold SB8
 by_cases h1 : s.1 = 1
 ·by_cases h4 : m.1 = 4
  ·rw [if_pos ⟨h1, h4⟩]
   simp only [tk, if_pos h1, if_pos h4]
  ·rw [if_neg (fun h => h4 h.2)]
   simp only [tk, if_pos h1, if_neg h4]
 ·rw [if_neg (fun h => h1 h.1)]
  simp only [tk, if_neg h1]
theorem zry (tag : List UInt8) (kd : Int) (s m : Tok) (r : List Tok) : SB6 tag kd (s :: m :: r) = if s.1 = 1 /\ zfb m = true then tk 1 r fun _ r => (zex r).map fun p => cA tag kd m.2.1 p.1 p.2 else none := by
 unfold SB6
 by_cases h1 : s.1 = 1
 ·by_cases h4 : zfb m = true
  ·rw [if_pos ⟨h1, h4⟩]
   simp only [tk, tkM, if_pos h1, if_pos h4]
  ·rw [if_neg (fun h => h4 h.2)]
   simp only [tk, tkM, if_pos h1, if_neg h4]
 ·rw [if_neg (fun h => h1 h.1)]
  simp only [tk, if_neg h1]
theorem zst (tag : List UInt8) (kd : Int) (s m : Tok) (r : List Tok) : SB5 tag kd (s :: m :: r) = if s.1 = 1 /\ zfb m = true then tkE r (cA tag kd m.2.1 0 []) else none := by
 unfold SB5
 by_cases h1 : s.1 = 1
 ·by_cases h4 : zfb m = true
  ·rw [if_pos ⟨h1, h4⟩]
   simp only [tk, tkM, if_pos h1, if_pos h4]
  ·rw [if_neg (fun h => h4 h.2)]
   simp only [tk, tkM, if_pos h1, if_neg h4]
 ·rw [if_neg (fun h => h1 h.1)]
  simp only [tk, if_neg h1]
theorem kn1 {a b : Tok} {r : List Tok} {c : Bool} (h : (kc b != 115) = c) : (nth .u8 ((a :: b :: r).map kc) 1 != (115 : UInt8)) = c := h
theorem kn3 {a b d e : Tok} {r : List Tok} {c : Bool} (h : (kc e != 115) = c) : (nth .u8 ((a :: b :: d :: e :: r).map kc) 3 != (115 : UInt8)) = c := h
theorem kn5 {a b d e f g : Tok} {r : List Tok} {c : Bool} (h : (kc g != 115) = c) : (nth .u8 ((a :: b :: d :: e :: f :: g :: r).map kc) 5 != (115 : UInt8)) = c := h
theorem zuU (a b c : Tok) (r : List Tok) : nth uS1 (@List.cons Tok a (b :: c :: r)) 2 = c := rfl
theorem zui (a b c d e : Tok) (r : List Tok) : nth uS1 (@List.cons Tok a (b :: c :: d :: e :: r)) 4 = e := rfl
theorem zrA (a b c d : Tok) (r : List Tok) : ze (a :: b :: c :: d :: r) 4 = r := by rw [zb9]; rfl
theorem ztq (a b c d e f : Tok) (r : List Tok) : ze (a :: b :: c :: d :: e :: f :: r) 6 = r := by rw [zb9]; rfl
theorem kcF {t : Tok} (h : z7 t) (h1 : t.1 = 1) : (kc t != 115) = false := by rw [ztJ h, eqT h1]; rfl
theorem kcT {t : Tok} (h : z7 t) (h1 : ¬ t.1 = 1) : (kc t != 115) = true := by rw [ztJ h, eqF h1]; rfl
theorem zoL (tag : List UInt8) (l : List Tok) (hl : l.length <= 2000) (hk : ∀ t ∈ l, z7 t) : BR (zam 3000 tag l) (zeb tag l) := by
 cases l with
 | nil => exact ⟨_, rfl⟩
 | cons w r =>
  have e0 : ((((List.length (w :: r)) : Nat) : Int) == (0 : Int)) = false := zkR (n := 0) (by simp)
  have hkw := hk w (List.mem_cons_self ..)
  have hks := zlJ (w :: r) hl hk
  have hkv := zht w.2.1 hkw.2.1
  have hkr := zoF w.2.1 hkw.2.1
  unfold zam zeb
  simp only [e0, cond_false, qC, cond_true, qE, hkr, Option.bind_some, hks]
  by_cases h4 : w.1 = 4
  ·simp only [neF h4, cond_false, tk, if_pos h4]
   generalize kK w.2.1 = k at hkv |-
   by_cases hz : k = 0
   ·simp only [eqT hz, cond_true, show decide ((0 : Int) < k) = false from by simp; omega, cond_false, if_pos hz]
    exact ⟨_, rfl⟩
   ·simp only [eqF hz, cond_false, if_neg hz, show decide ((0 : Int) < k) = true from by simp; omega, cond_true]
    by_cases hk4 : k <= 4
    ·simp only [show decide (k <= (4 : Int)) = true from by simpa using hk4, cond_true, if_pos hk4]
     cases r with
     | nil => exact rfl
     | cons a r =>
      rw [show ((((List.length (w :: a :: r)) : Nat) : Int) == (1 : Int)) = false from zkR (n := 1) (by simp)]
      exact ⟨_, rfl⟩
    ·simp only [show decide (k <= (4 : Int)) = false from by simpa using hk4, cond_false, if_neg hk4]
     match r, hl, hk with
     | [], hl, hk =>
      simp only [show decide ((((List.length [w]) : Nat) : Int) < 3) = true from rfl, cond_true]
      refine kl ?_
      split
      ·rfl
      ·split
       ·rfl
       ·split <;> rfl
     | [a], hl, hk =>
      simp only [show decide ((((List.length [w, a]) : Nat) : Int) < 3) = true from rfl, cond_true]
      refine kl ?_
      rw [(zmq tag k a).2, (zl9 tag k a).2, (zm7 tag k a).2, (zmL tag k a).2]
      split
      ·rfl
      ·split
       ·rfl
       ·split <;> rfl
     | s :: m :: r, hl, hk =>
      have hs := hk s (by simp)
      have hm := hk m (by simp)
      have hkr : ∀ t ∈ r, z7 t := fun t ht => hk t (List.mem_cons_of_mem _ (List.mem_cons_of_mem _ (List.mem_cons_of_mem _ ht)))
      have hlr : r.length <= 1997 := by simp only [List.length_cons] at hl; omega
      have e3 : decide ((((List.length (w :: s :: m :: r)) : Nat) : Int) < (3 : Int)) = false := zkz (k := 3) (n := 3) (by simp) (by omega)
      have i1 : inb (1 : Int) (List.length ((w :: s :: m :: r).map kc)) = true := zX (i := 1) (by simp)
      have i2 : inb (2 : Int) (List.length (w :: s :: m :: r)) = true := zX (i := 2) (by simp)
      have hbox := zqi m hm.2.1
      have hset := zpc m.2.1 hm.2.1
      rw [zst, zry, zsd, zrB]
      by_cases h1 : s.1 = 1
      ·simp only [e3, cond_false, i1, cond_true, i2, zuU]
       rw [kn1 (kcF hs h1)]
       simp only [cond_false]
       by_cases hk6 : k <= 6
       ·simp only [show decide (k <= (6 : Int)) = true from by simpa using hk6, cond_true, hbox, Option.bind_some]
        cases hb : zfb m with
        | false =>
         simp only [Bool.not_false, cond_true]
         refine kl ?_
         by_cases h5 : k = 5
         ·rw [if_pos h5, if_neg (fun h => by cases h.2)]
         ·rw [if_neg h5, if_pos (show k = 6 by omega), if_neg (fun h => by cases h.2)]
        | true =>
         simp only [Bool.not_true, cond_false]
         by_cases h5 : k = 5
         ·simp only [eqT h5, cond_true, if_pos h5]
          rw [if_pos (And.intro h1 trivial)]
          cases r with
          | nil => exact rfl
          | cons a r =>
           rw [show ((((List.length (w :: s :: m :: a :: r)) : Nat) : Int) == (3 : Int)) = false from zkR (n := 3) (by simp)]
           exact ⟨_, rfl⟩
         ·have h6 : k = 6 := by omega
          simp only [eqF h5, cond_false, if_neg h5, if_pos h6]
          rw [if_pos (And.intro h1 trivial)]
          cases r with
          | nil =>
           simp only [show decide ((((List.length [w, s, m]) : Nat) : Int) < 4) = true from rfl, cond_true]
           exact ⟨_, rfl⟩
          | cons s2 r =>
           have hs2 := hkr s2 (by simp)
           have e4 : decide ((((List.length (w :: s :: m :: s2 :: r)) : Nat) : Int) < (4 : Int)) = false := zkz (k := 4) (n := 4) (by simp) (by omega)
           have i3 : inb (3 : Int) (List.length ((w :: s :: m :: s2 :: r).map kc)) = true := zX (i := 3) (by simp)
           have b4 : zY (4 : Int) (w :: s :: m :: s2 :: r) = true := zcK (a := 4) (by simp)
           by_cases h7 : s2.1 = 1
           ·have happ := zp3 tag k m.2.1 r (by simp only [List.length_cons] at hlr; omega) (fun t ht => hkr t (List.mem_cons_of_mem _ ht))
            unfold cA at happ
            simp only [e4, cond_false, i3, cond_true, b4, Bool.and_true, zrA, tk, if_pos h7]
            rw [kn3 (kcF hs2 h7)]
            simp only [cond_false]
            cases ha : zex r with
            | none =>
             rw [ha] at happ
             obtain ⟨c, hc⟩ := happ
             rw [hc]
             exact ⟨_, rfl⟩
            | some p =>
             obtain ⟨f, d⟩ := p
             rw [ha] at happ
             simp only at happ
             rw [happ]
             rfl
           ·simp only [e4, cond_false, i3, cond_true, tk, if_neg h7]
            rw [kn3 (kcT hs2 h7)]
            simp only [cond_true]
            exact ⟨_, rfl⟩
       ·have h5 : ¬ k = 5 := by omega
        have h6 : ¬ k = 6 := by omega
        simp only [show decide (k <= (6 : Int)) = false from by simpa using hk6, cond_false, hset, Option.bind_some, if_neg h5, if_neg h6]
        by_cases hm4 : m.1 = 4
        ·rw [if_pos (And.intro h1 hm4), if_pos (And.intro h1 hm4)]
         simp only [neF hm4, cond_false]
         cases hst : zhG m.2.1 with
         | none =>
          simp only [Bool.not_false, cond_true, Option.bind_none]
          refine kl ?_
          split <;> rfl
         | some st =>
          simp only [Bool.not_true, cond_false, Option.bind_some]
          match r, hkr, hlr with
          | [], _, _ =>
           simp only [show decide ((((List.length [w, s, m]) : Nat) : Int) < 5) = true from rfl, cond_true]
           refine kl ?_
           split <;> rfl
          | [s2], _, _ =>
           simp only [show decide ((((List.length [w, s, m, s2]) : Nat) : Int) < 5) = true from rfl, cond_true]
           refine kl ?_
           by_cases h7 : s2.1 = 1
           ·simp only [tk, if_pos h7]
            split <;> rfl
           ·simp only [tk, if_neg h7]
            split <;> rfl
          | s2 :: t :: r, hkr, hlr =>
           have hs2 := hkr s2 (by simp)
           have ht := hkr t (by simp)
           have hkr2 : ∀ u ∈ r, z7 u := fun u hu => hkr u (List.mem_cons_of_mem _ (List.mem_cons_of_mem _ hu))
           have hlr2 : r.length <= 1995 := by simp only [List.length_cons] at hlr; omega
           have e5 : decide ((((List.length (w :: s :: m :: s2 :: t :: r)) : Nat) : Int) < (5 : Int)) = false := zkz (k := 5) (n := 5) (by simp) (by omega)
           have i3 : inb (3 : Int) (List.length ((w :: s :: m :: s2 :: t :: r).map kc)) = true := zX (i := 3) (by simp)
           have b4 : zY (4 : Int) (w :: s :: m :: s2 :: t :: r) = true := zcK (a := 4) (by simp)
           have i4 : inb (4 : Int) (List.length (w :: s :: m :: s2 :: t :: r)) = true := zX (i := 4) (by simp)
           by_cases h7 : s2.1 = 1
           ·simp only [e5, cond_false, i3, cond_true, b4, Bool.and_true, zrA, tk, if_pos h7]
            rw [kn3 (kcF hs2 h7)]
            simp only [cond_false]
            by_cases hk7 : k = 7
            ·simp only [eqT hk7, cond_true, if_pos hk7]
             have hlist := zhM true (t :: r) (by simp only [List.length_cons]; omega) (fun u hu => by
              rcases List.mem_cons.1 hu with rfl | hu
              ·exact ht
              ·exact hkr2 u hu)
             cases r with
             | nil =>
              rw [show ((((List.length [w, s, m, s2, t]) : Nat) : Int) == (5 : Int)) = true from rfl]
              have hwords := zdC true [t] (by simp) (fun u hu => by rw [List.mem_singleton.1 hu]; exact ht)
              have hl1 : ∃ v b, jg 3000 [t] true = some (v, b, ()) := by
               cases ho : zgb (brS true [t]) with
               | none => rw [ho] at hlist; obtain ⟨v, hv⟩ := hlist; exact ⟨v, false, hv⟩
               | some x => rw [ho] at hlist; exact ⟨x, true, hlist⟩
              obtain ⟨v, b, hv⟩ := hl1
              simp only [hv, Option.bind_some, cond_true]
              have hi : itS [t] = zq (fW true) orI 0 [t] := rfl
              rw [hi]
              cases ho : zq (fW true) orI 0 [t] with
              | none => rw [ho] at hwords; obtain ⟨v, hv⟩ := hwords; rw [hv]; exact ⟨_, rfl⟩
              | some x => rw [ho] at hwords; simp only [WR] at hwords; rw [hwords]; rfl
             | cons b r =>
              rw [show ((((List.length (w :: s :: m :: s2 :: t :: b :: r)) : Nat) : Int) == (5 : Int)) = false from zkR (n := 5) (by simp)]
              simp only [cond_false]
              have hi : itS (t :: b :: r) = zgb (brS true (t :: b :: r)) := rfl
              rw [hi]
              cases ho : zgb (brS true (t :: b :: r)) with
              | none => rw [ho] at hlist; obtain ⟨v, hv⟩ := hlist; rw [hv]; exact ⟨_, rfl⟩
              | some x => rw [ho] at hlist; simp only [WR] at hlist; rw [hlist]; rfl
            ·simp only [eqF hk7, cond_false, if_neg hk7, i4, cond_true, zui, zoY t.2.1 ht.2.1]
             by_cases ht4 : t.1 = 4
             ·simp only [neF ht4, cond_false, if_pos ht4]
              cases hmo : zdW t.2.1 with
              | none =>
               simp only [zlC, Option.bind_some, show decide ((-1 : Int) < 0) = true from rfl, cond_true, Option.bind_none]
               exact ⟨_, rfl⟩
              | some mb =>
               obtain ⟨mo, sl⟩ := mb
               have hmo0 : decide (mo < (0 : Int)) = false := by
                obtain ⟨w', b', i, _, _, h3⟩ := ziN (t.2.1.map up) (by rw [List.length_map]; exact ht.2.1)
                rw [show zjx (t.2.1.map up) = some (mo, sl) from hmo] at h3
                obtain ⟨h4, h5, h6⟩ := h3
                simp; omega
               simp only [zlC, Option.bind_some, hmo0, cond_false]
               match r, hkr2, hlr2 with
               | [], _, _ =>
                simp only [show decide ((((List.length [w, s, m, s2, t]) : Nat) : Int) < 7) = true from rfl, cond_true]
                exact ⟨_, rfl⟩
               | [s3], _, _ =>
                simp only [show decide ((((List.length [w, s, m, s2, t, s3]) : Nat) : Int) < 7) = true from rfl, cond_true]
                refine kl ?_
                by_cases h8 : s3.1 = 1
                ·simp only [if_pos h8]; rfl
                ·simp only [if_neg h8]
               | s3 :: u :: r, hkr2, hlr2 =>
                have hs3 := hkr2 s3 (by simp)
                have e7 : decide ((((List.length (w :: s :: m :: s2 :: t :: s3 :: u :: r)) : Nat) : Int) < (7 : Int)) = false := zkz (k := 7) (n := 7) (by simp) (by omega)
                have i5 : inb (5 : Int) (List.length ((w :: s :: m :: s2 :: t :: s3 :: u :: r).map kc)) = true := zX (i := 5) (by simp)
                have b6 : zY (6 : Int) (w :: s :: m :: s2 :: t :: s3 :: u :: r) = true := zcK (a := 6) (by simp)
                by_cases h8 : s3.1 = 1
                ·have hku : ∀ v ∈ u :: r, z7 v := fun v hv => hkr2 v (List.mem_cons_of_mem _ hv)
                 have hlu : (u :: r).length <= 2000 := by simp only [List.length_cons] at hlr2 |-; omega
                 have hlist := zhM false (u :: r) hlu hku
                 have hwords := zdC false (u :: r) hlu hku
                 simp only [e7, cond_false, i5, cond_true, b6, ztq, if_pos h8]
                 rw [kn5 (kcF hs3 h8)]
                 simp only [cond_false]
                 unfold zjO
                 cases ho : zgb (brS false (u :: r)) with
                 | none =>
                  rw [ho] at hlist
                  obtain ⟨v, hv⟩ := hlist
                  simp only [hv, Option.bind_some, Bool.not_false, cond_true]
                  cases hw : zq (fW false) orI 0 (u :: r) with
                  | none => rw [hw] at hwords; obtain ⟨v', hv'⟩ := hwords; rw [hv']; exact ⟨_, rfl⟩
                  | some x => rw [hw] at hwords; simp only [WR] at hwords; rw [hwords]; rfl
                 | some x =>
                  rw [ho] at hlist
                  simp only [WR] at hlist
                  simp only [hlist, Option.bind_some, Bool.not_true, cond_false]
                  rfl
                ·simp only [e7, cond_false, i5, cond_true, if_neg h8]
                 rw [kn5 (kcT hs3 h8)]
                 simp only [cond_true]
                 exact ⟨_, rfl⟩
             ·cases hmo : zdW t.2.1 with
              | none => simp only [zlC, Option.bind_some, neT ht4, cond_true, if_neg ht4]; exact ⟨_, rfl⟩
              | some mb => simp only [zlC, Option.bind_some, neT ht4, cond_true, if_neg ht4]; exact ⟨_, rfl⟩
           ·simp only [e5, cond_false, i3, cond_true, tk, if_neg h7]
            rw [kn3 (kcT hs2 h7)]
            simp only [cond_true]
            refine kl ?_
            split <;> rfl
        ·rw [if_neg (fun h : s.1 = 1 /\ m.1 = 4 => hm4 h.2), if_neg (fun h : s.1 = 1 /\ m.1 = 4 => hm4 h.2)]
         simp only [neT hm4, cond_true]
         refine kl ?_
         split <;> rfl
      ·simp only [e3, cond_false, i1, cond_true]
       rw [kn1 (kcT hs h1)]
       simp only [cond_true]
       refine kl ?_
       rw [if_neg (fun h : s.1 = 1 /\ zfb m = true => h1 h.1), if_neg (fun h : s.1 = 1 /\ zfb m = true => h1 h.1), if_neg (fun h : s.1 = 1 /\ m.1 = 4 => h1 h.1), if_neg (fun h : s.1 = 1 /\ m.1 = 4 => h1 h.1)]
       split
       ·rfl
       ·split
        ·rfl
        ·split <;> rfl
  ·simp only [neT h4, cond_true, tk, if_neg h4]
   exact ⟨_, rfl⟩
def jY (b : List UInt8) : El uS2 × Bool :=
 if 0 < run qp b /\ b[run qp b]? = some 32 then
  (match jH (b.drop (run qp b + 1)) 3000 0 with
  | .inl l => (match zeb (b.take (run qp b)) l.dropLast with
   | some c => (c, true)
   | none => (zd9 (b.take (run qp b)), false))
  | .inr _ => (zd9 (b.take (run qp b)), false))
 else (zd9 [], false)
theorem zlm (b : List UInt8) (hb : b.length <= 2000) : wG 3000 b = some ((jY b).1, (jY b).2, ()) := by
 unfold wG
 rw [zow 3000 b (by omega) (by omega)]
 unfold zrr jY
 by_cases h : 0 < run qp b /\ b[run qp b]? = some 32
 ·have hlt := (List.getElem?_eq_some_iff.1 h.2).1
  rw [if_pos h, if_pos h]
  generalize run qp b = n at h hlt
  generalize b.take n = tag
  have hb1 : zY ((n + 1 : Nat) : Int) b = true := zcK (by omega)
  simp only [Option.bind_some, Bool.not_true, cond_false, hb1, Bool.and_true, cond_true, Int.toNat_natCast, zb9]
  have hdl : (b.drop (n + 1)).length <= 2000 := by rw [List.length_drop]; omega
  rw [zmG 3000 (b.drop (n + 1)) (by omega) (by omega) (by omega)]
  unfold zpX
  cases ht : jH (b.drop (n + 1)) 3000 0 with
  | inr a =>
   simp only [Option.bind_some, show decide (((a : Nat) : Int) < (0 : Int)) = false from by simp, Bool.not_false, cond_true]
   rfl
  | inl l =>
   obtain ⟨p, e, rfl, he, hk, hpl⟩ := zcU hdl 3000 0 l (by omega) ht
   simp only [Option.bind_some, show decide ((-1 : Int) < 0) = true from rfl, Bool.not_true, cond_false, List.dropLast_concat]
   cases p with
   | nil =>
    have f4 : ¬ e.1 = 4 := by omega
    simp only [List.nil_append, qC, cond_true, zI, qE, Option.bind_some, eqF f4, Bool.not_false]
    rfl
   | cons w p =>
    have hkw := hk w (List.mem_cons_self ..)
    have hkp : ∀ t ∈ p, z7 t := fun t ht => hk t (List.mem_cons_of_mem _ ht)
    have hlp : p.length <= 2000 := by simp only [List.length_cons] at hpl; omega
    have hkv := zht w.2.1 hkw.2.1
    simp only [List.cons_append, qC, cond_true, zI, qE, Option.bind_some, zn, znl _ hkw.2.1]
    rw [show List.drop 1 (w :: (p ++ [e])) = p ++ [e] from rfl]
    unfold zeb
    by_cases h4 : w.1 = 4
    ·simp only [eqT h4, Bool.not_true, cond_false, tk, if_pos h4]
     generalize kK w.2.1 = k at hkv
     by_cases hz : k = 0
     ·simp only [show decide ((0 : Int) < k) = false from by simp; omega, Bool.not_false, cond_true, if_pos hz]
      rfl
     ·simp only [show decide ((0 : Int) < k) = true from by simp; omega, Bool.not_true, cond_false, if_neg hz]
      have hR : ∀ o : Option (El uS2), zk1 tag o = some ((match o with
        | some c => (c, true)
        | none => (zd9 tag, false) : El uS2 × Bool).1, (match o with
        | some c => (c, true)
        | none => (zd9 tag, false) : El uS2 × Bool).2, ()) := fun o => by cases o <;> rfl
      have hB1 := zqe tag k e he p hkp
      have hB5 := zp2 tag k e he p hlp hkp
      have hB6 := zrc tag k e he p hlp hkp
      have hB7 := zqA tag k e he p hlp hkp
      have hB8 := zqz tag k e he p hlp hkp
      rw [hR] at hB1 hB5 hB6 hB7 hB8
      by_cases hk4 : k <= 4
      ·rw [if_pos hk4, <- hB1]
       by_cases q1 : k = 1
       ·simp only [eqT q1, cond_true]
       ·by_cases q2 : k = 2
        ·simp only [eqF q1, eqT q2, cond_true, cond_false]
        ·by_cases q3 : k = 3
         ·simp only [eqF q1, eqF q2, eqT q3, cond_true, cond_false]
         ·simp only [eqF q1, eqF q2, eqF q3, eqT (show k = 4 by omega), cond_true, cond_false]
      ·rw [if_neg hk4]
       simp only [eqF (show ¬ k = 1 by omega), eqF (show ¬ k = 2 by omega), eqF (show ¬ k = 3 by omega), eqF (show ¬ k = 4 by omega), cond_false]
       by_cases h5 : k = 5
       ·simp only [eqT h5, cond_true, if_pos h5]
        exact hB5
       ·simp only [eqF h5, cond_false, if_neg h5]
        by_cases h6 : k = 6
        ·simp only [eqT h6, cond_true, if_pos h6]
         exact hB6
        ·simp only [eqF h6, cond_false, if_neg h6]
         by_cases h7 : k = 7
         ·simp only [eqT h7, cond_true, if_pos h7]
          exact hB7
         ·simp only [eqF h7, cond_false, if_neg h7, eqT (show k = 8 by omega), cond_true]
          exact hB8
    ·simp only [eqF h4, Bool.not_false, cond_true, tk, if_neg h4]
     rfl
 ·rw [if_neg h, if_neg h]
  rfl
theorem zn0 (b : List UInt8) (hb : b.length <= 2000) : xi 3000 b = some ((jY b).1, (jY b).2, ()) := by
 unfold xi
 rw [zqZ 3000 b (by omega) (by omega)]
 unfold zrr jY
 by_cases h : 0 < run qp b /\ b[run qp b]? = some 32
 ·have hlt := (List.getElem?_eq_some_iff.1 h.2).1
  rw [if_pos h, if_pos h]
  generalize run qp b = n at h hlt
  generalize b.take n = tag
  have hb1 : zY ((n + 1 : Nat) : Int) b = true := zcK (by omega)
  simp only [Option.bind_some, Bool.not_true, cond_false, hb1, Bool.and_true, cond_true, Int.toNat_natCast, zb9]
  have hdl : (b.drop (n + 1)).length <= 2000 := by rw [List.length_drop]; omega
  rw [zhv 3000 (b.drop (n + 1)) (by omega) (by omega) (by omega)]
  unfold zpX
  cases ht : jH (b.drop (n + 1)) 3000 0 with
  | inr a =>
   simp only [Option.bind_some, show decide ((0 : Int) <= ((a : Nat) : Int)) = true from by simp, cond_true]
   rfl
  | inl l =>
   obtain ⟨p, e, rfl, he, hk, hpl⟩ := zcU hdl 3000 0 l (by omega) ht
   have hlen : (p ++ [e]).length = p.length + 1 := by simp
   have hw : IntKind.wrap .i64 ((((List.length (p ++ [e])) : Nat) : Int) - 1) = ((p.length : Nat) : Int) := by rw [hlen, wri (by omega) (by omega)]; omega
   have hbn := qT (a := 0) (b := p.length) (n := (p ++ [e]).length) (by omega) (by rw [hlen]; omega)
   rw [show ((0 : Nat) : Int) = (0 : Int) from rfl] at hbn
   have hsl : slice (p ++ [e]) 0 p.length = p := by rw [jz]; simp
   have hbody := zoL tag p (by omega) hk
   simp only [Option.bind_some, show decide ((0 : Int) <= -1) = false from rfl, cond_false, List.dropLast_concat, hw, hbn, cond_true, Int.toNat_natCast, hsl]
   cases hs : zeb tag p with
   | none =>
    rw [hs] at hbody
    obtain ⟨c, hc⟩ := hbody
    rw [hc]
    rfl
   | some c =>
    rw [hs] at hbody
    simp only [BR] at hbody
    rw [hbody]
    rfl
 ·rw [if_neg h, if_neg h]
  rfl
theorem kO {A : Type} {k : Int} {l : List Tok} {f : Tok -> List Tok -> Option A} {x : A} (h : tk k l f = some x) : ∃ t r, l = t :: r /\ t.1 = k /\ f t r = some x := by
 cases l with
 | nil => cases h
 | cons t r =>
  unfold tk at h
  simp only at h
  by_cases hk : t.1 = k
  ·rw [if_pos hk] at h; exact ⟨t, r, rfl, hk, h⟩
  ·rw [if_neg hk] at h; cases h
theorem zk0 {A : Type} {l : List Tok} {f : Tok -> List Tok -> Option A} {x : A} (h : tkM l f = some x) : ∃ t r, l = t :: r /\ zfb t = true /\ f t r = some x := by
 cases l with
 | nil => cases h
 | cons t r =>
  unfold tkM at h
  simp only at h
  by_cases hk : zfb t = true
  ·rw [if_pos hk] at h; exact ⟨t, r, rfl, hk, h⟩
  ·rw [if_neg hk] at h; cases h
theorem zkG {A : Type} {l : List Tok} {y x : A} (h : tkE l y = some x) : l = [] /\ y = x := by
 cases l with
 | nil => cases h; exact ⟨rfl, rfl⟩
 | cons t r => cases h
theorem zfu : ∀ {l : List (List UInt8)} {o : List (Int × Int)}, qS l = some o -> o.length = l.length
 | [], o, h => by cases h; rfl
 | s :: l, o, h => by
  unfold qS at h
  cases hr : kD s with
  | none => rw [hr] at h; cases h
  | some r =>
   cases ht : qS l with
   | none => rw [hr, ht] at h; cases h
   | some t =>
    rw [hr, ht] at h
    cases h
    simp only [List.length_cons, zfu ht]
theorem zku {s : List UInt8} {o : List (Int × Int)} (h : zhG s = some o) : 0 < o.length /\ o.length <= s.length + 1 := by
 rw [zfu h]
 exact ⟨(jN 44 s).1, (jN 44 s).2.1⟩
theorem zh0 {tag : List UInt8} {l : List Tok} {c : El uS2} (hk : ∀ t ∈ l, z7 t) (h : zeb tag l = some c) :
  (∃ k, 1 <= k /\ k <= 4 /\ c = cA tag k [] 0 []) \/ (∃ m, m.length <= 2000 /\ c = cA tag 5 m 0 []) \/ (∃ m r f d, m.length <= 2000 /\ zex r = some (f, d) /\ (∀ t ∈ r, z7 t) /\ c = cA tag 6 m f d)
  \/ (∃ s st r x, s.length <= 2000 /\ zhG s = some st /\ itS r = some x /\ (∀ t ∈ r, z7 t) /\ c = cI tag 7 st x)
  \/ (∃ s st w r m b f, s.length <= 2000 /\ zhG s = some st /\ zdW w = some (m, b) /\ w.length <= 2000 /\ zjO r = some f /\ (∀ t ∈ r, z7 t) /\ c = cS tag 8 st m b f) := by
 unfold zeb at h
 obtain ⟨w, r, rfl, h4, h⟩ := kO h
 have hkw := hk w (List.mem_cons_self ..)
 have hkr : ∀ t ∈ r, z7 t := fun t ht => hk t (List.mem_cons_of_mem _ ht)
 have hkv := zht w.2.1 hkw.2.1
 generalize kK w.2.1 = k at h hkv
 by_cases hz : k = 0
 ·rw [if_pos hz] at h; cases h
 ·rw [if_neg hz] at h
  by_cases hk4 : k <= 4
  ·rw [if_pos hk4] at h
   obtain ⟨h1, h2⟩ := zkG h
   exact .inl ⟨k, by omega, hk4, h2.symm⟩
  ·rw [if_neg hk4] at h
   by_cases h5 : k = 5
   ·rw [if_pos h5] at h
    subst h5
    obtain ⟨s, r1, rfl, h6, h⟩ := kO h
    obtain ⟨m, r2, rfl, h7, h⟩ := zk0 h
    obtain ⟨h8, h9⟩ := zkG h
    exact .inr (.inl ⟨m.2.1, (hkr m (by simp)).2.1, h9.symm⟩)
   ·rw [if_neg h5] at h
    by_cases h6 : k = 6
    ·rw [if_pos h6] at h
     subst h6
     obtain ⟨s, r1, rfl, h6, h⟩ := kO h
     obtain ⟨m, r2, rfl, h7, h⟩ := zk0 h
     obtain ⟨s2, r3, rfl, h8, h⟩ := kO h
     cases ha : zex r3 with
     | none => rw [ha] at h; cases h
     | some p =>
      rw [ha] at h
      cases h
      exact .inr (.inr (.inl ⟨m.2.1, r3, p.1, p.2, (hkr m (by simp)).2.1, ha, fun t ht => hkr t (by simp [ht]), rfl⟩))
    ·rw [if_neg h6] at h
     by_cases h7 : k = 7
     ·rw [if_pos h7] at h
      subst h7
      obtain ⟨s, r1, rfl, h6, h⟩ := kO h
      obtain ⟨t, r2, rfl, h7, h⟩ := kO h
      cases hs : zhG t.2.1 with
      | none => rw [hs] at h; cases h
      | some st =>
       rw [hs, Option.bind_some] at h
       obtain ⟨s2, r3, rfl, h8, h⟩ := kO h
       cases ha : itS r3 with
       | none => rw [ha] at h; cases h
       | some x =>
        rw [ha] at h
        cases h
        exact .inr (.inr (.inr (.inl ⟨t.2.1, st, r3, x, (hkr t (by simp)).2.1, hs, ha, fun t ht => hkr t (by simp [ht]), rfl⟩)))
     ·rw [if_neg h7] at h
      have h8 : k = 8 := by omega
      subst h8
      obtain ⟨s, r1, rfl, h6, h⟩ := kO h
      obtain ⟨t, r2, rfl, h7, h⟩ := kO h
      cases hs : zhG t.2.1 with
      | none => rw [hs] at h; cases h
      | some st =>
       rw [hs, Option.bind_some] at h
       obtain ⟨s2, r3, rfl, h8, h⟩ := kO h
       obtain ⟨w2, r4, rfl, h9, h⟩ := kO h
       cases hm : zdW w2.2.1 with
       | none => rw [hm] at h; cases h
       | some mb =>
        rw [hm, Option.bind_some] at h
        obtain ⟨s3, r5, rfl, h10, h⟩ := kO h
        cases ha : zjO r5 with
        | none => rw [ha] at h; cases h
        | some f =>
         rw [ha] at h
         cases h
         exact .inr (.inr (.inr (.inr ⟨t.2.1, st, w2.2.1, r5, mb.1, mb.2, f, (hkr t (by simp)).2.1, hs, hm, (hkr w2 (by simp)).2.1, ha, fun t ht => hkr t (by simp [ht]), rfl⟩)))
theorem znj (b : List UInt8) (hb : b.length <= 2000) : (jY b).1.2.2.2.1.length <= 2001 := by
 unfold jY
 split
 ·split
  ·rename_i l ht
   have hdl : (b.drop (run qp b + 1)).length <= 2000 := by rw [List.length_drop]; omega
   obtain ⟨p, e, rfl, he, hk, hpl⟩ := zcU hdl 3000 0 l (by omega) ht
   rw [List.dropLast_concat]
   cases hs : zeb (b.take (run qp b)) p with
   | none => simp [zd9]
   | some c =>
    rcases zh0 hk hs with ⟨k, _, _, rfl⟩ | ⟨m, _, rfl⟩ | ⟨m, r, f, d, _, _, _, rfl⟩ | ⟨s, st, r, x, h1, h2, _, _, rfl⟩ | ⟨s, st, w, r, m, b, f, h1, h2, _, _, _, _, rfl⟩
    ·simp [cA]
    ·simp [cA]
    ·simp [cA]
    ·have := (zku h2).2; simp only [cI]; omega
    ·have := (zku h2).2; simp only [cS]; omega
  ·simp [zd9]
 ·simp [zd9]
theorem zsv (t : List UInt8) (k : Int) (m : List UInt8) (st : List (Int × Int)) (it mo : Int) (si : Bool) (fl : UInt8) (da : List UInt8) (hst : st.length <= 2001) : ∀ (n i : Nat), i <= st.length -> st.length < n + i ->
  qJ 3000 n (i : Int) t k m st it mo si fl da t k m st it mo si fl da = some (.inr (t, k, m, st, it, mo, si, fl, da, t, k, m, st, it, mo, si, fl, da))
 | 0, i, h, h' => by omega
 | n + 1, i, h, h' => by
  unfold qJ xZ
  by_cases hi : i < st.length
  ·simp only [zhE hi, cond_true, zX hi, Int.toNat_natCast, jK (u := .pair (.int .u32) (.int .u32)) hi, beq_self_eq_true, Bool.and_true, Bool.not_true, cond_false]
   rw [wri (by omega) (by omega), show ((i : Int) + 1) = ((i + 1 : Nat) : Int) by omega]
   exact zsv t k m st it mo si fl da hst n (i + 1) (by omega) (by omega)
  ·simp only [zhF hi, cond_false]
theorem zmJ (c : El uS2) (h : c.2.2.2.1.length <= 2001) : xU 3000 c c = some (true, ()) := by
 obtain ⟨t, k, m, st, it, mo, si, fl, da⟩ := c
 have hL := zsv t k m st it mo si fl da h 3000 0 (by omega) (by simp only at h; omega)
 rw [show ((0 : Nat) : Int) = (0 : Int) from rfl] at hL
 unfold xU
 simp only [bne_self_eq_false, cond_false, hL, Option.bind_some, zk, beq_self_eq_true, cond_true]


theorem zp6 (c : UInt8) : ql (up c) = ql c := by
 have := j0 (p := fun c => ql (up c) == ql c) (by kernel_rfl) c
 simpa using this
theorem zsw (c : UInt8) : qp (up c) = qp c := by
 have := j0 (p := fun c => qp (up c) == qp c) (by kernel_rfl) c
 simpa using this
theorem zrK (c : UInt8) : zby (up c) = zby c := by
 have := j0 (p := fun c => zby (up c) == zby c) (by kernel_rfl) c
 simpa using this
theorem ztt (c : UInt8) : up (up c) = up c := by
 have := j0 (p := fun c => up (up c) == up c) (by kernel_rfl) c
 simpa using this
theorem zqL (c : UInt8) : (up c == 32) = (c == 32) := by
 have := j0 (p := fun c => (up c == 32) == (c == 32)) (by kernel_rfl) c
 simpa using this
theorem zsF (c : UInt8) : (up c == 40) = (c == 40) := by
 have := j0 (p := fun c => (up c == 40) == (c == 40)) (by kernel_rfl) c
 simpa using this
theorem zrL (c : UInt8) : (up c == 41) = (c == 41) := by
 have := j0 (p := fun c => (up c == 41) == (c == 41)) (by kernel_rfl) c
 simpa using this
theorem ztf (c : UInt8) : (up c == 34) = (c == 34) := by
 have := j0 (p := fun c => (up c == 34) == (c == 34)) (by kernel_rfl) c
 simpa using this
theorem zsA (c : UInt8) : (up c == 123) = (c == 123) := by
 have := j0 (p := fun c => (up c == 123) == (c == 123)) (by kernel_rfl) c
 simpa using this
theorem ztw (c : UInt8) : (up c == 44) = (c == 44) := by
 have := j0 (p := fun c => (up c == 44) == (c == 44)) (by kernel_rfl) c
 simpa using this
theorem ztx (c : UInt8) : (up c == 58) = (c == 58) := by
 have := j0 (p := fun c => (up c == 58) == (c == 58)) (by kernel_rfl) c
 simpa using this
theorem ztC (c : UInt8) : (up c == 42) = (c == 42) := by
 have := j0 (p := fun c => (up c == 42) == (c == 42)) (by kernel_rfl) c
 simpa using this
theorem zpQ (c : UInt8) : (48 <= c.toNat /\ c.toNat <= 57 /\ up c = c) \/ (¬ (48 <= c.toNat /\ c.toNat <= 57) /\ ¬ (48 <= (up c).toNat /\ (up c).toNat <= 57)) := by
 have := j0 (p := fun c => decide ((48 <= c.toNat /\ c.toNat <= 57 /\ up c = c) \/ (¬ (48 <= c.toNat /\ c.toNat <= 57) /\ ¬ (48 <= (up c).toNat /\ (up c).toNat <= 57)))) (by kernel_rfl) c
 simpa only [decide_eq_true_eq] using this
theorem zdc (s : List UInt8) : (s.map up).map up = s.map up := by
 rw [List.map_map]
 exact List.map_congr_left fun c _ => ztt c
theorem zlZ {p : UInt8 -> Bool} (h : ∀ c, p (up c) = p c) : ∀ l : List UInt8, run p (l.map up) = run p l
 | [] => rfl
 | c :: l => by simp only [List.map_cons, run, h, zlZ h l]
theorem zkp {k : UInt8} (h : ∀ c, (up c == k) = (c == k)) : ∀ l : List UInt8, posOf k (l.map up) = posOf k l
 | [] => rfl
 | c :: l => by simp only [List.map_cons, posOf, h, zkp h l]
theorem zis {k : UInt8} (h : ∀ c, (up c == k) = (c == k)) : ∀ l : List UInt8, qc k (l.map up) = (qc k l).map fun s => s.map up
 | [] => rfl
 | c :: l => by
  simp only [List.map_cons, qc, h, zis h l]
  by_cases hc : (c == k) = true
  ·simp only [if_pos hc]; rfl
  ·simp only [if_neg hc]
   cases qc k l <;> rfl
theorem zmB : ∀ (l : List UInt8) (acc : Nat), zgc acc (l.map up) = zgc acc l
 | [], acc => rfl
 | c :: l, acc => by
  simp only [List.map_cons, zgc]
  rcases zpQ c with ⟨h1, h2, h3⟩ | ⟨h1, h2⟩
  ·rw [h3, if_pos ⟨h1, h2⟩, if_pos ⟨h1, h2⟩]
   exact zmB l _
  ·rw [if_neg h1, if_neg h2]
theorem zkS : ∀ (l : List UInt8) (acc v : Nat), zgc acc l = some v -> l.map up = l
 | [], acc, v, h => rfl
 | c :: l, acc, v, h => by
  simp only [zgc] at h
  rcases zpQ c with ⟨h1, h2, h3⟩ | ⟨h1, h2⟩
  ·rw [if_pos ⟨h1, h2⟩] at h
   rw [List.map_cons, h3, zkS l _ v h]
  ·rw [if_neg h1] at h; cases h
theorem zqf (s : List UInt8) : zdH (s.map up) = zdH s := by
 unfold zdH
 rw [zmB]
 cases hv : zgc 0 s with
 | none => rfl
 | some v => rw [zkS s 0 v hv]
theorem zmh (s : List UInt8) : s.map up = [42] ↔ s = [42] := by
 constructor
 ·intro h
  match s, h with
  | [], h => cases h
  | [c], h =>
   have h1 : up c = 42 := by simpa using h
   have h2 := ztC c
   rw [h1] at h2
   have : c = 42 := by simpa using h2.symm
   rw [this]
  | c :: d :: r, h => simp at h
 ·intro h; rw [h]; rfl
theorem zjy (s : List UInt8) : zga (s.map up) = zga s := by
 unfold zga
 rw [zqf]
 by_cases h : s = [42]
 ·rw [if_pos h, if_pos ((zmh s).2 h)]
 ·rw [if_neg h, if_neg (fun h' => h ((zmh s).1 h'))]
theorem znG (s : List UInt8) : kD (s.map up) = kD s := by
 unfold kD
 rw [zkp ztx, zjy]
 cases posOf 58 s with
 | none => rfl
 | some i =>
  simp only
  rw [<- List.map_take, <- List.map_drop, zjy, zjy]
theorem zgA : ∀ l : List (List UInt8), qS (l.map fun s => s.map up) = qS l
 | [] => rfl
 | s :: l => by simp only [List.map_cons, qS, znG, zgA l]
theorem znM (s : List UInt8) : zhG (s.map up) = zhG s := by
 unfold zhG
 rw [zis ztw, zgA]
theorem zon (s : List UInt8) (hs : s.length <= 2000) : kK (s.map up) = kK s := by
 have e : qP 3000 (s.map up) = qP 3000 s := by
  unfold qP
  rw [znt s _ (qu s hs), znt (s.map up) _ (qu (s.map up) (by rw [List.length_map]; exact hs)), zdc]
 unfold kK
 rw [e]
theorem zoO (s : List UInt8) (hs : s.length <= 2000) : kr (s.map up) = kr s := by
 have e : qM 3000 (s.map up) = qM 3000 s := by
  unfold qM
  rw [znQ s _ (qu s hs), znQ (s.map up) _ (qu (s.map up) (by rw [List.length_map]; exact hs)), zdc]
 unfold kr
 rw [e]
theorem zrk (items : Bool) (s : List UInt8) (hs : s.length <= 2000) : fW items (s.map up) = fW items s := by
 have : vW items (s.map up) = vW items s := by
  unfold vW zjN flS
  rw [zoO s hs, zdc]
 unfold fW
 rw [this]
theorem zoT (s : List UInt8) : zdW (s.map up) = zdW s := by unfold zdW; rw [zdc]
def upT (t : Tok) : Tok := (t.1, t.2.1.map up, t.2.2)
theorem zsz (t : Tok) : zfb (upT t) = zfb t := by
 unfold zfb upT
 simp only [List.all_map]
 by_cases h : t.1 = 4
 ·rw [if_pos h, if_pos h]
  congr 1
  funext c
  exact zrK c
 ·rw [if_neg h, if_neg h]
theorem zo3 (b : List UInt8) (i j : Nat) : slice (b.map up) i j = (slice b i j).map up := by
 unfold slice
 rw [List.map_take, List.map_drop]
theorem zc2 {k : UInt8} (h : ∀ c, (up c == k) = (c == k)) (c : UInt8) : up c = k ↔ c = k := by
 rw [<- beq_iff_eq, h c, beq_iff_eq]
theorem zqO (b : List UInt8) (i : Nat) (h : ∀ c, b[i]? = some c -> c ≠ 34 /\ c ≠ 123) : ja (b.map up) i = (ja b i).map fun p => (upT p.1, p.2) := by
 unfold ja
 rw [List.getElem?_map]
 cases hb : b[i]? with
 | none => rfl
 | some c =>
  obtain ⟨h34, h123⟩ := h c hb
  simp only [Option.map_some]
  by_cases h1 : c = 32
  ·rw [if_pos h1, if_pos ((zc2 zqL c).2 h1)]; rfl
  ·rw [if_neg h1, if_neg (fun h => h1 ((zc2 zqL c).1 h))]
   by_cases h2 : c = 40
   ·rw [if_pos h2, if_pos ((zc2 zsF c).2 h2)]; rfl
   ·rw [if_neg h2, if_neg (fun h => h2 ((zc2 zsF c).1 h))]
    by_cases h3 : c = 41
    ·rw [if_pos h3, if_pos ((zc2 zrL c).2 h3)]; rfl
    ·rw [if_neg h3, if_neg (fun h => h3 ((zc2 zrL c).1 h)), if_neg h34, if_neg (fun h => h34 ((zc2 ztf c).1 h)), if_neg h123, if_neg (fun h => h123 ((zc2 zsA c).1 h))]
     rw [<- List.map_drop, zlZ zp6]
     by_cases h4 : 0 < run ql (b.drop i)
     ·rw [if_pos h4, if_pos h4, zo3]; rfl
     ·rw [if_neg h4, if_neg h4]; rfl
theorem znr (b : List UInt8) (h : ∀ c ∈ b, c ≠ 34 /\ c ≠ 123) : ∀ (f i : Nat), jH (b.map up) f i = match jH b f i with
  | .inl l => .inl (l.map upT)
  | .inr a => .inr a
 | 0, i => rfl
 | f + 1, i => by
  unfold jH
  rw [zqO b i (fun c hc => h c (List.mem_of_getElem? hc)), List.length_map]
  cases ja b i with
  | none => rfl
  | some p =>
   obtain ⟨t, n⟩ := p
   simp only [Option.map_some]
   by_cases hl : b.length <= i
   ·rw [if_pos hl, if_pos hl]; rfl
   ·rw [if_neg hl, if_neg hl, znr b h f n]
    cases jH b f n <;> rfl
theorem znF {b : List UInt8} {i n : Nat} {t : Tok} (hi : i < b.length) (h : ja b i = some (t, n)) (ht : t.1 <= 4) : ∀ (j : Nat) (c : UInt8), i <= j -> j < n -> b[j]? = some c -> c ≠ 34 /\ c ≠ 123 := by
 intro j c h1 h2 h3
 unfold ja at h
 rw [List.getElem?_eq_getElem hi] at h
 simp only at h
 have one : n = i + 1 -> b[i] = c := by
  intro hn
  have : j = i := by omega
  subst this
  rw [List.getElem?_eq_getElem hi] at h3
  cases h3; rfl
 by_cases c1 : b[i] = 32
 ·rw [if_pos c1] at h
  cases h
  rw [<- one rfl, c1]; exact ⟨by decide, by decide⟩
 ·rw [if_neg c1] at h
  by_cases c2 : b[i] = 40
  ·rw [if_pos c2] at h
   cases h
   rw [<- one rfl, c2]; exact ⟨by decide, by decide⟩
  ·rw [if_neg c2] at h
   by_cases c3 : b[i] = 41
   ·rw [if_pos c3] at h
    cases h
    rw [<- one rfl, c3]; exact ⟨by decide, by decide⟩
   ·rw [if_neg c3] at h
    by_cases c4 : b[i] = 34
    ·rw [if_pos c4] at h
     split at h
     ·cases h; simp at ht
     ·cases h
    ·rw [if_neg c4] at h
     by_cases c5 : b[i] = 123
     ·rw [if_pos c5] at h
      split at h
      ·cases h
      ·split at h
       ·cases h
       ·split at h
        ·cases h; simp at ht
        ·cases h
     ·rw [if_neg c5] at h
      by_cases c6 : 0 < run ql (b.drop i)
      ·rw [if_pos c6] at h
       cases h
       have hall := zfh ql (b.drop i)
       have hm : c ∈ (b.drop i).take (run ql (b.drop i)) := by
        apply List.mem_of_getElem? (i := j - i)
        rw [List.getElem?_take, if_pos (by omega), List.getElem?_drop, show i + (j - i) = j by omega]
        exact h3
       have hw := List.all_eq_true.1 hall c hm
       constructor
       ·intro e; rw [e] at hw; revert hw; decide
       ·intro e; rw [e] at hw; revert hw; decide
      ·rw [if_neg c6] at h; cases h
theorem ziP {b : List UInt8} : ∀ (f i : Nat) (l : List Tok), jH b f i = .inl l -> (∀ t ∈ l, t.1 <= 4) -> ∀ (j : Nat) (c : UInt8), i <= j -> b[j]? = some c -> c ≠ 34 /\ c ≠ 123
 | 0, i, l, h, hk, j, c, h1, h2 => by cases h
 | f + 1, i, l, h, hk, j, c, h1, h2 => by
  unfold jH at h
  cases hn : ja b i with
  | none => rw [hn] at h; cases h
  | some p =>
   obtain ⟨t, n⟩ := p
   rw [hn] at h
   simp only at h
   have hj := (List.getElem?_eq_some_iff.1 h2).1
   rw [if_neg (by omega)] at h
   cases hr : jH b f n with
   | inr a => rw [hr] at h; cases h
   | inl l' =>
    rw [hr] at h
    cases h
    by_cases hjn : j < n
    ·exact znF (by omega) hn (hk t (List.mem_cons_self ..)) j c h1 hjn h2
    ·exact ziP f n l' hr (fun u hu => hk u (List.mem_cons_of_mem _ hu)) j c (by omega) h2
theorem zoD {b : List UInt8} {i n : Nat} {t : Tok} (hq : ∀ c, b[i]? = some c -> c ≠ 34 /\ c ≠ 123) (h : ja b i = some (t, n)) : t.1 <= 4 := by
 unfold ja at h
 cases hb : b[i]? with
 | none => rw [hb] at h; cases h; simp
 | some c =>
  obtain ⟨q1, q2⟩ := hq c hb
  rw [hb] at h
  simp only [if_neg q1, if_neg q2] at h
  split at h
  ·cases h; simp
  ·split at h
   ·cases h; simp
   ·split at h
    ·cases h; simp
    ·split at h
     ·cases h; simp
     ·cases h
theorem zkq {b : List UInt8} (hq : ∀ c ∈ b, c ≠ 34 /\ c ≠ 123) : ∀ (f i : Nat) (l : List Tok), jH b f i = .inl l -> ∀ t ∈ l, t.1 <= 4
 | 0, i, l, h, t, ht => by cases h
 | f + 1, i, l, h, t, ht => by
  unfold jH at h
  cases hn : ja b i with
  | none => rw [hn] at h; cases h
  | some p =>
   obtain ⟨u, n⟩ := p
   have hu := zoD (fun c hc => hq c (List.mem_of_getElem? hc)) hn
   rw [hn] at h
   simp only at h
   by_cases hl : b.length <= i
   ·rw [if_pos hl] at h
    cases h
    rw [List.mem_singleton.1 ht]; exact hu
   ·rw [if_neg hl] at h
    cases hr : jH b f n with
    | inr a => rw [hr] at h; cases h
    | inl l' =>
     rw [hr] at h
     cases h
     rcases List.mem_cons.1 ht with rfl | ht
     ·exact hu
     ·exact zkq hq f n l' hr t ht
theorem zfe {A : Type} {f : List UInt8 -> Option A} {op : A -> A -> A} (hf : ∀ s : List UInt8, s.length <= 2000 -> f (s.map up) = f s) : ∀ (l : List Tok) (a : A), (∀ t ∈ l, z7 t) -> zq f op a (l.map upT) = zq f op a l
 | [], a, hk => rfl
 | [t], a, hk => by
  have hkt := hk t (by simp)
  simp only [List.map_cons, List.map_nil, zq, upT, hf _ hkt.2.1]
 | t :: s :: r, a, hk => by
  have hkt := hk t (by simp)
  have ih := fun a => zfe hf (op := op) r a (fun u hu => hk u (by simp [hu]))
  simp only [List.map_cons, zq]
  rw [show (upT t).2.1 = t.2.1.map up from rfl, hf _ hkt.2.1, show (upT t).1 = t.1 from rfl, show (upT s).1 = s.1 from rfl]
  simp only [ih]
theorem zn5 : ∀ l : List Tok, zbH (l.map upT) = (zbH l).map fun p => (p.1.map upT, p.2.map upT)
 | [] => rfl
 | t :: r => by
  simp only [List.map_cons, zbH]
  rw [show (upT t).1 = t.1 from rfl, zn5 r]
  by_cases h : t.1 = 3
  ·simp only [if_pos h]; rfl
  ·simp only [if_neg h]
   cases zbH r <;> rfl
theorem zpz (items : Bool) (l : List Tok) (hk : ∀ t ∈ l, z7 t) : zgb (brS items (l.map upT)) = zgb (brS items l) := by
 cases l with
 | nil => rfl
 | cons a r =>
  simp only [List.map_cons, brS]
  rw [show (upT a).1 = a.1 from rfl, zn5 r]
  by_cases h2 : a.1 = 2
  ·simp only [if_pos h2]
   cases hc : zbH r with
   | none => rfl
   | some pq =>
    obtain ⟨p, q⟩ := pq
    obtain ⟨z, z1, z2, z3⟩ := wJ hc
    have hq : ∀ x : Int, zgb (some (x, q.map upT)) = zgb (some (x, q)) := by intro x; cases q <;> rfl
    cases p with
    | nil =>
     simp only [Option.map_some, List.map_nil]
     cases items
     ·exact hq 0
     ·rfl
    | cons t p =>
     have hw := zfe (op := orI) (zrk items) (t :: p) 0 (fun u hu => hk u (by rw [z2]; exact List.mem_cons_of_mem _ (List.mem_append_left _ hu)))
     simp only [Option.map_some, List.map_cons] at hw |-
     rw [hw]
     cases zq (fW items) orI 0 (t :: p) with
     | none => rfl
     | some x => exact hq x
  ·simp only [if_neg h2]
theorem ztj (l : List Tok) (hk : ∀ t ∈ l, z7 t) : itS (l.map upT) = itS l := by
 match l, hk with
 | [], _ => rfl
 | [t], hk => exact zfe (op := orI) (zrk true) [t] 0 hk
 | a :: b :: r, hk => exact zpz true (a :: b :: r) hk
theorem zto (l : List Tok) (hk : ∀ t ∈ l, z7 t) : zjO (l.map upT) = zjO l := by
 unfold zjO
 rw [zpz false l hk, zfe (op := orI) (zrk false) l 0 hk]
theorem zkn (r : List Tok) (hk : ∀ t ∈ r, t.1 <= 4) : zex r = none := by
 cases h : zex r with
 | none => rfl
 | some p =>
  exfalso
  obtain ⟨f, d⟩ := p
  match r, hk, h with
  | [], _, h => cases h
  | [t], hk, h =>
   have h : (if t.1 = 6 then some ((0 : UInt8), t.2.1) else none) = some (f, d) := h
   split at h
   ·rename_i h6
    have := hk t (by simp); omega
   ·cases h
  | a :: b :: r, hk, h =>
   have h : (match brS false (a :: b :: r) with
    | some (x, [s, d]) => if s.1 = 1 /\ d.1 = 6 then some (zaw x, d.2.1) else none
    | _ => none) = some (f, d) := h
   split at h
   ·rename_i x s d' hb
    split at h
    ·rename_i h6
     obtain ⟨pre, hp⟩ := zgr hb
     have := hk d' (by rw [hp]; simp)
     omega
    ·cases h
   ·cases h
def upC (c : El uS2) : El uS2 := (c.1.map up, (c.2.1, (c.2.2.1.map up, c.2.2.2)))
theorem zeU {k : Int} {l : List Tok} {f g : Tok -> List Tok -> Option (El uS2)} (h : ∀ t r, l = t :: r -> f (upT t) (r.map upT) = (g t r).map upC) : tk k (l.map upT) f = (tk k l g).map upC := by
 cases l with
 | nil => rfl
 | cons t r =>
  unfold tk
  simp only [List.map_cons]
  rw [show (upT t).1 = t.1 from rfl]
  by_cases hk : t.1 = k
  ·rw [if_pos hk, if_pos hk]; exact h t r rfl
  ·rw [if_neg hk, if_neg hk]; rfl
theorem zpG {l : List Tok} {f g : Tok -> List Tok -> Option (El uS2)} (h : ∀ t r, l = t :: r -> f (upT t) (r.map upT) = (g t r).map upC) : tkM (l.map upT) f = (tkM l g).map upC := by
 cases l with
 | nil => rfl
 | cons t r =>
  unfold tkM
  simp only [List.map_cons]
  rw [zsz]
  by_cases hk : zfb t = true
  ·rw [if_pos hk, if_pos hk]; exact h t r rfl
  ·rw [if_neg hk, if_neg hk]; rfl
theorem zpo {l : List Tok} {x : El uS2} : tkE (l.map upT) (upC x) = (tkE l x).map upC := by cases l <;> rfl
theorem zp8 (tag : List UInt8) (l : List Tok) (hk : ∀ t ∈ l, z7 t) (h4 : ∀ t ∈ l, t.1 <= 4) : zeb (tag.map up) (l.map upT) = (zeb tag l).map upC := by
 unfold zeb
 refine zeU fun w r hl => ?_
 subst hl
 have hkw := hk w (List.mem_cons_self ..)
 have hkr : ∀ t ∈ r, z7 t := fun t ht => hk t (List.mem_cons_of_mem _ ht)
 have h4r : ∀ t ∈ r, t.1 <= 4 := fun t ht => h4 t (List.mem_cons_of_mem _ ht)
 rw [show (upT w).2.1 = w.2.1.map up from rfl, zon _ hkw.2.1]
 generalize kK w.2.1 = k
 by_cases hz : k = 0
 ·rw [if_pos hz, if_pos hz]; rfl
 ·rw [if_neg hz, if_neg hz]
  by_cases hk4 : k <= 4
  ·rw [if_pos hk4, if_pos hk4]
   exact zpo (x := cA tag k [] 0 [])
  ·rw [if_neg hk4, if_neg hk4]
   by_cases h5 : k = 5
   ·rw [if_pos h5, if_pos h5]
    unfold SB5
    refine zeU fun s r1 e1 => zpG fun m r2 e2 => ?_
    exact zpo (x := cA tag k m.2.1 0 [])
   ·rw [if_neg h5, if_neg h5]
    by_cases h6 : k = 6
    ·rw [if_pos h6, if_pos h6]
     unfold SB6
     refine zeU fun s r1 e1 => zpG fun m r2 e2 => zeU fun s2 r3 e3 => ?_
     have a1 : zex r3 = none := zkn r3 (fun t ht => h4r t (by rw [e1, e2, e3]; simp [ht]))
     have a2 : zex (r3.map upT) = none := zkn _ (fun t ht => by
      obtain ⟨u, hu, rfl⟩ := List.mem_map.1 ht
      exact h4r u (by rw [e1, e2, e3]; simp [hu]))
     rw [a1, a2]; rfl
    ·rw [if_neg h6, if_neg h6]
     by_cases h7 : k = 7
     ·rw [if_pos h7, if_pos h7]
      unfold SB7
      refine zeU fun s r1 e1 => zeU fun m r2 e2 => ?_
      rw [show (upT m).2.1 = m.2.1.map up from rfl, znM]
      cases zhG m.2.1 with
      | none => rfl
      | some st =>
       simp only [Option.bind_some]
       refine zeU fun s2 r3 e3 => ?_
       rw [ztj r3 (fun t ht => hkr t (by rw [e1, e2, e3]; simp [ht]))]
       cases itS r3 <;> rfl
     ·rw [if_neg h7, if_neg h7]
      unfold SB8
      refine zeU fun s r1 e1 => zeU fun m r2 e2 => ?_
      rw [show (upT m).2.1 = m.2.1.map up from rfl, znM]
      cases zhG m.2.1 with
      | none => rfl
      | some st =>
       simp only [Option.bind_some]
       refine zeU fun s2 r3 e3 => zeU fun w2 r4 e4 => ?_
       rw [show (upT w2).2.1 = w2.2.1.map up from rfl, zoT]
       cases zdW w2.2.1 with
       | none => rfl
       | some mb =>
        simp only [Option.bind_some]
        refine zeU fun s3 r5 e5 => ?_
        rw [zto r5 (fun t ht => hkr t (by rw [e1, e2, e3, e4, e5]; simp [ht]))]
        cases zjO r5 <;> rfl
theorem zoZ (b : List UInt8) (hb : b.length <= 2000) (hq : ∀ c ∈ b, c ≠ 34 /\ c ≠ 123) : jY (b.map up) = (upC (jY b).1, (jY b).2) := by
 unfold jY
 rw [zlZ zsw, List.getElem?_map]
 have h32 : (b[run qp b]?.map up = some 32) ↔ b[run qp b]? = some 32 := by
  cases b[run qp b]? with
  | none => simp
  | some c => simp only [Option.map_some, Option.some.injEq]; exact zc2 zqL c
 by_cases h : 0 < run qp b /\ b[run qp b]? = some 32
 ·rw [if_pos h, if_pos ⟨h.1, h32.2 h.2⟩]
  rw [<- List.map_drop, <- List.map_take]
  generalize b.take (run qp b) = tag
  have hq2 : ∀ c ∈ b.drop (run qp b + 1), c ≠ 34 /\ c ≠ 123 := fun c hc => hq c (List.mem_of_mem_drop hc)
  rw [znr _ hq2]
  have hdl : (b.drop (run qp b + 1)).length <= 2000 := by rw [List.length_drop]; omega
  cases ht : jH (b.drop (run qp b + 1)) 3000 0 with
  | inr a => rfl
  | inl l =>
   have hl4 := zkq hq2 3000 0 l ht
   obtain ⟨p, e, rfl, he, hk, hpl⟩ := zcU hdl 3000 0 l (by omega) ht
   simp only [List.map_append, List.map_cons, List.map_nil, List.dropLast_concat]
   rw [zp8 tag p hk (fun t ht => hl4 t (List.mem_append_left _ ht))]
   cases zeb tag p <;> rfl
 ·rw [if_neg h, if_neg (fun h' => h ⟨h'.1, h32.1 h'.2⟩)]
  rfl
theorem zn4 (b : List UInt8) (hb : b.length <= 2000) : (jY b).1.1.length <= 2000 /\ (jY b).1.2.2.1.length <= 2000 := by
 unfold jY
 have htl : (b.take (run qp b)).length <= 2000 := by rw [List.length_take]; omega
 generalize b.take (run qp b) = tag at htl
 split
 ·split
  ·rename_i l ht
   have hdl : (b.drop (run qp b + 1)).length <= 2000 := by rw [List.length_drop]; omega
   obtain ⟨p, e, rfl, he, hk, hpl⟩ := zcU hdl 3000 0 l (by omega) ht
   rw [List.dropLast_concat]
   cases hs : zeb tag p with
   | none => exact ⟨htl, by simp [zd9]⟩
   | some c =>
    rcases zh0 hk hs with ⟨k, _, _, rfl⟩ | ⟨m, h1, rfl⟩ | ⟨m, r, f, d, h1, _, _, rfl⟩ | ⟨s, st, r, x, h1, h2, _, _, rfl⟩ | ⟨s, st, w, r, m, b, f, h1, h2, _, _, _, _, rfl⟩
    ·exact ⟨htl, by simp [cA]⟩
    ·exact ⟨htl, h1⟩
    ·exact ⟨htl, h1⟩
    ·exact ⟨htl, by simp [cI]⟩
    ·exact ⟨htl, by simp [cS]⟩
  ·exact ⟨htl, by simp [zd9]⟩
 ·exact ⟨by simp [zd9], by simp [zd9]⟩
theorem zsL (b : List UInt8) (l : List Tok) (hl : l.length <= 20000) : ∀ (m i : Nat), i <= l.length -> l.length < m + i ->
  zJ 3000 m b l (l.length : Int) (i : Int) = some (if (l.drop i).all (fun t => decide (t.1 <= 4)) = true then Sum.inr b else Sum.inl true)
 | 0, i, h, h' => by omega
 | m + 1, i, h, h' => by
  unfold zJ jS
  by_cases hi : i < l.length
  ·simp only [zhE hi, cond_true, zX hi, Int.toNat_natCast, jK (u := uS1) hi, drop_one hi, List.all_cons, Option.bind_some]
   by_cases hc : l[i].1 <= 4
   ·rw [decide_eq_false (show ¬ (4 : Int) < l[i].1 by omega), decide_eq_true hc, cond_false, Bool.true_and]
    rw [wri (by omega) (by omega), show ((i : Int) + 1) = ((i + 1 : Nat) : Int) by omega]
    exact zsL b l hl m (i + 1) (by omega) (by omega)
   ·rw [decide_eq_true (show (4 : Int) < l[i].1 by omega), decide_eq_false hc]
    rfl
  ·simp only [zhF hi, cond_false]
   rw [List.drop_eq_nil_of_le (by omega)]
   rfl
theorem zuK (b : List UInt8) : zW 3000 b = some (true, ()) := by
 unfold zW
 by_cases h : (2000 : Int) < (((List.length b) : Nat) : Int)
 ·rw [if_pos h, decide_eq_true h]
  have h1 := qT (a := 0) (b := 2000) (n := b.length) (by omega) (by omega)
  rw [show ((0 : Nat) : Int) = (0 : Int) from rfl, show ((2000 : Nat) : Int) = (2000 : Int) from rfl] at h1
  rw [h1, show Int.toNat (2000 : Int) = 2000 from rfl, jz, zhv 3000 (b.take 2000) (by rw [List.length_take]; omega) (by omega) (by rw [List.length_take]; omega)]
  unfold zpX
  rfl
 ·rw [if_neg h, decide_eq_false h]
  have hb : b.length <= 2000 := by omega
  have h1 := qT (a := 0) (b := b.length) (n := b.length) (by omega) (by omega)
  rw [show ((0 : Nat) : Int) = (0 : Int) from rfl] at h1
  rw [h1, Int.toNat_natCast, jz, List.take_length, zhv 3000 b (by omega) (by omega) (by omega)]
  unfold zpX
  simp only [Bool.and_true, cond_true, cond_false, Option.bind_some]
  cases ht : jH b 3000 0 with
  | inr a =>
   simp only [show decide ((0 : Int) <= ((a : Nat) : Int)) = true from by simp, cond_true]
  | inl l =>
   obtain ⟨p, e, hpe, he, hk, hpl⟩ := zcU hb 3000 0 l (by omega) ht
   have hll : l.length <= 2001 := by rw [hpe]; simp; omega
   have hL := zsL b l (by omega) 3000 0 (by omega) (by omega)
   rw [show ((0 : Nat) : Int) = (0 : Int) from rfl, List.drop_zero] at hL
   simp only [show decide ((0 : Int) <= (-1 : Int)) = false from rfl, cond_false]
   rw [hL]
   cases ha : l.all (fun t => decide (t.1 <= 4)) with
   | false => rfl
   | true =>
    simp only [if_true, Option.bind_some, zk]
    have h4 : ∀ t ∈ l, t.1 <= 4 := fun t ht => by
     have := List.all_eq_true.1 ha t ht
     simpa using this
    have hq : ∀ c ∈ b, c ≠ 34 /\ c ≠ 123 := fun c hc => by
     obtain ⟨j, hj, e2⟩ := List.getElem_of_mem hc
     exact ziP 3000 0 l ht h4 j c (by omega) (by rw [List.getElem?_eq_getElem hj, e2])
    have hpl := zn4 b hb
    have hps := znj b hb
    rw [zn0 b hb, qu b hb]
    simp only [Option.bind_some]
    rw [zbB (by rw [List.length_map]; omega), zlm (b.map up) (by rw [List.length_map]; exact hb), zoZ b hb hq]
    simp only [cond_true, Option.bind_some, qu _ hpl.1, qu _ hpl.2, beq_self_eq_true]
    rw [show ((jY b).1.1.map up, ((jY b).1.2.1, ((jY b).1.2.2.1.map up, (jY b).1.2.2.2))) = upC (jY b).1 from rfl, zmJ (upC (jY b).1) hps]
    rfl
theorem law (x : El (zbs [.sl .u8])) (hw : Wf (zbs [.sl .u8]) x) : ∃ N, zW N x.1 = some (true, ()) := ⟨3000, zuK x.1⟩
end Go.Proofs.Model
