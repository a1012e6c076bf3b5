/- The machines and the plain laws, part 7. -/
import Derived.Test.YtjcpakmcbjjkhaaGreatDoorB6
set_option linter.unusedVariables false
set_option linter.unusedSimpArgs false
set_option maxRecDepth 100000
namespace Go.Proofs.Model
open Go Go.Gx Go.Mx Go.Sx
def flA : List UInt8 := [92, 65, 78, 83, 87, 69, 82, 69, 68]
def flF : List UInt8 := [92, 70, 76, 65, 71, 71, 69, 68]
def flD : List UInt8 := [92, 68, 69, 76, 69, 84, 69, 68]
def flE : List UInt8 := [92, 83, 69, 69, 78]
def flR : List UInt8 := [92, 68, 82, 65, 70, 84]
def flT : List (List UInt8 × UInt8) := [(flA, 1), (flF, 2), (flD, 4), (flE, 8), (flR, 16)]
def flS (s : List UInt8) : Option Nat :=
 if s.map up = flA then some 1 else if s.map up = flF then some 2 else if s.map up = flD then some 4 else if s.map up = flE then some 8 else if s.map up = flR then some 16 else none
theorem znp {s : List UInt8} {n : Nat} (h : flS s = some n) : 0 < n /\ n < 32 := by
 unfold flS at h
 split at h
 ·cases h; omega
 ·split at h
  ·cases h; omega
  ·split at h
   ·cases h; omega
   ·split at h
    ·cases h; omega
    ·split at h
     ·cases h; omega
     ·cases h
theorem zr1 (u : List UInt8) : zaO .str .u8 flT u = if u = flA then some 1 else if u = flF then some 2 else if u = flD then some 4 else if u = flE then some 8 else if u = flR then some 16 else none := by
 show cond (u == flA) (some 1) (cond (u == flF) (some 2) (cond (u == flD) (some 4) (cond (u == flE) (some 8) (cond (u == flR) (some 16) none)))) = _
 have h : ∀ (x : List UInt8) (a b : Option UInt8), cond (u == x) a b = if u = x then a else b := fun x a b => by
  cases e : u == x with
  | true => rw [beq_iff_eq] at e; rw [if_pos e]; rfl
  | false => rw [if_neg (by simpa using e)]; rfl
 simp only [h]
theorem zrM (s : List UInt8) : zaO .str .u8 flT (s.map up) = (flS s).map UInt8.ofNat := by
 rw [zr1]
 unfold flS
 split
 ·rfl
 ·split
  ·rfl
  ·split
   ·rfl
   ·split
    ·rfl
    ·split <;> rfl
theorem zaG (s : List UInt8) (hs : s.length <= 2000) (h0 : s ≠ []) (h32 : posOf 32 s = none) : jA 3000 ((([40] : List UInt8) ++ s) ++ ([41] : List UInt8)) = some (match flS s with
  | some n => (UInt8.ofNat n, true, ())
  | none => (0, false, ())) := by
 have e1 : je 3000 ((([40] : List UInt8) ++ s) ++ ([41] : List UInt8)) ([40] : List UInt8) = some (s ++ [41], true, ()) := by
  unfold je ji jg
  have hl : (([40] ++ s) ++ [41] : List UInt8).length = s.length + 2 := by simp
  have c1 : decide ((((List.length ([40] : List UInt8)) : Nat) : Int) <= (((List.length ((([40] : List UInt8) ++ s) ++ ([41] : List UInt8))) : Nat) : Int)) = true := by rw [hl]; simp; omega
  have c2 : js (0 : Int) (((List.length ([40] : List UInt8)) : Nat) : Int) (List.length ((([40] : List UInt8) ++ s) ++ ([41] : List UInt8))) = true := by
   have := qY (a := 0) (b := 1) (n := (([40] ++ s) ++ [41] : List UInt8).length) (by omega) (by rw [hl]; omega)
   exact this
  have c3 : js (((List.length ([40] : List UInt8)) : Nat) : Int) (((List.length ((([40] : List UInt8) ++ s) ++ ([41] : List UInt8))) : Nat) : Int) (List.length ((([40] : List UInt8) ++ s) ++ ([41] : List UInt8))) = true := qY (by rw [hl]; simp) (Nat.le_refl _)
  simp only [c1, c2, c3, cond_true, Option.bind_some, Int.toNat_natCast, xg]
  rfl
 have e2 : zQ 3000 (s ++ [41]) ([41] : List UInt8) = some (s, true, ()) := by
  unfold zQ qh qf
  have hl : (s ++ [41] : List UInt8).length = s.length + 1 := by simp
  have w : IntKind.wrap .i64 ((((List.length (s ++ [41] : List UInt8)) : Nat) : Int) - (((List.length ([41] : List UInt8)) : Nat) : Int)) = ((s.length : Nat) : Int) := by rw [hl, wri (by simp) (by simp; omega)]; simp
  have c1 : decide ((((List.length ([41] : List UInt8)) : Nat) : Int) <= (((List.length (s ++ [41] : List UInt8)) : Nat) : Int)) = true := by rw [hl]; simp; omega
  have c2 : js ((s.length : Nat) : Int) (((List.length (s ++ [41] : List UInt8)) : Nat) : Int) (List.length (s ++ [41] : List UInt8)) = true := qY (by rw [hl]; omega) (Nat.le_refl _)
  have c3 : js (0 : Int) ((s.length : Nat) : Int) (List.length (s ++ [41] : List UInt8)) = true := by
   have := qY (a := 0) (b := s.length) (n := (s ++ [41] : List UInt8).length) (by omega) (by rw [hl]; omega)
   exact this
  have q1 : (s ++ [41] : List UInt8).drop s.length = [41] := by simp
  have q2 : (s ++ [41] : List UInt8).take s.length = s := by simp
  simp only [w, c1, c2, c3, cond_true, Option.bind_some, Int.toNat_natCast, xg, j7, q1, q2, show (([41] : List UInt8) == [41]) = true from rfl, Bool.not_true, cond_false]
 unfold jA
 have e3 : (s == ([] : List UInt8)) = false := by simpa using h0
 have e4 : zcL 3000 (31 : UInt8) = some ([1, 2, 4, 8, 16], ()) := by kernel_rfl
 have e5 : jm 3000 3000 [1, 2, 4, 8, 16] (((List.length ([1, 2, 4, 8, 16] : List UInt8)) : Nat) : Int) (0 : Int) ([] : List ((List UInt8) × UInt8)) = some flT := by kernel_rfl
 have e6 : Nat.ble (List.length s) zgN = true := by rw [Nat.ble_eq]; unfold zgN; omega
 simp only [e1, e2, Option.bind_some, Bool.not_true, cond_false, e3, e4, e5, e6, cond_true, zfc, xy h32]
 unfold qE wB
 have c1 : decide ((0 : Int) < (((List.length [s]) : Nat) : Int)) = true := rfl
 have c2 : inb (0 : Int) (List.length [s]) = true := rfl
 simp only [c1, c2, cond_true, show nth .str [s] (Int.toNat 0) = s from rfl, zca s (by omega), Option.bind_some, zrM]
 cases flS s with
 | none => rfl
 | some n =>
  simp only [Option.map_some, Option.isSome_some, Bool.not_true, cond_false, Option.getD_some]
  unfold qE wB
  have w1 : IntKind.wrap .i64 ((0 : Int) + 1) = 1 := rfl
  have c3 : decide ((1 : Int) < (((List.length [s]) : Nat) : Int)) = false := rfl
  simp only [w1, c3, cond_false, Option.bind_some, zl]
  rw [show (0 : UInt8) ||| UInt8.ofNat n = UInt8.ofNat n from UInt8.zero_or]
theorem zoi (s : List UInt8) (hs : s.length <= 2000) : kD 3000 s = some (match flS s with
  | some n => ((n : Nat) : Int)
  | none => 0, ()) := by
 have hU := za0 s hs
 unfold kD
 have s0 : zg 3000 3000 s 1 = cond (flA == s.map up) (some (.inl 1)) (zg 3000 2999 s 2) := by
  rw [show zg 3000 3000 s 1 = (Option.bind (zm 3000 s) fun y => cond (flA == y.1) (some (.inl 1)) (zg 3000 2999 s 2)) from by kernel_rfl, hU]; rfl
 have s1 : zg 3000 2999 s 2 = cond (flF == s.map up) (some (.inl 2)) (zg 3000 2998 s 4) := by
  rw [show zg 3000 2999 s 2 = (Option.bind (zm 3000 s) fun y => cond (flF == y.1) (some (.inl 2)) (zg 3000 2998 s 4)) from by kernel_rfl, hU]; rfl
 have s2 : zg 3000 2998 s 4 = cond (flD == s.map up) (some (.inl 4)) (zg 3000 2997 s 8) := by
  rw [show zg 3000 2998 s 4 = (Option.bind (zm 3000 s) fun y => cond (flD == y.1) (some (.inl 4)) (zg 3000 2997 s 8)) from by kernel_rfl, hU]; rfl
 have s3 : zg 3000 2997 s 8 = cond (flE == s.map up) (some (.inl 8)) (zg 3000 2996 s 16) := by
  rw [show zg 3000 2997 s 8 = (Option.bind (zm 3000 s) fun y => cond (flE == y.1) (some (.inl 8)) (zg 3000 2996 s 16)) from by kernel_rfl, hU]; rfl
 have s4 : zg 3000 2996 s 16 = cond (flR == s.map up) (some (.inl 16)) (zg 3000 2995 s 32) := by
  rw [show zg 3000 2996 s 16 = (Option.bind (zm 3000 s) fun y => cond (flR == y.1) (some (.inl 16)) (zg 3000 2995 s 32)) from by kernel_rfl, hU]; rfl
 rw [s0, s1, s2, s3, s4, show zg 3000 2995 s 32 = some (.inr ()) from by kernel_rfl]
 have h : ∀ (x : List UInt8) (a b : Option (Int ⊕ Unit)), cond (x == s.map up) a b = if s.map up = x then a else b := fun x a b => by
  cases e : x == s.map up with
  | true => rw [beq_iff_eq] at e; rw [if_pos e.symm]; rfl
  | false => rw [if_neg (fun q => by rw [q] at e; simp at e)]; rfl
 simp only [h]
 unfold flS
 split
 ·rfl
 ·split
  ·rfl
  ·split
   ·rfl
   ·split
    ·rfl
    ·split <;> rfl
theorem zI (a k : Int) : za 3000 [a] k = some (k == a, ()) := by
 unfold za qp
 rw [show zE 3000 3000 [a] k (((List.length [a]) : Nat) : Int) 0 = cond (k == a) (some (.inl 0)) (some (.inr ())) from by kernel_rfl]
 cases k == a <;> rfl
theorem zf3 (a b c k : Int) : za 3000 [a, b, c] k = some (k == a || k == b || k == c, ()) := by
 unfold za qp
 rw [show zE 3000 3000 [a, b, c] k (((List.length [a, b, c]) : Nat) : Int) 0 = cond (k == a) (some (.inl 0)) (cond (k == b) (some (.inl 1)) (cond (k == c) (some (.inl 2)) (some (.inr ())))) from by kernel_rfl]
 cases k == a <;> cases k == b <;> cases k == c <;> rfl
def zdA (c : UInt8) : Bool := cond (zfx c) true (c == 93)
theorem zsZ (N : Nat) (c : UInt8) : zJ N c = some (zdA c, ()) := by
 unfold zJ
 rw [zuA]
 simp only [Option.bind_some]
 unfold zdA
 cases zfx c <;> rfl
theorem zpa (N : Nat) (s : List UInt8) (hs : s.length <= 100000) : ∀ (m i : Nat), i <= s.length -> s.length < m + i ->
  zY N m s (s.length : Int) (i : Int) = some (if (s.drop i).all zdA = true then Sum.inr () else Sum.inl ())
 | 0, i, h, h' => by omega
 | m + 1, i, h, h' => by
  unfold zY kr
  by_cases hi : i < s.length
  ·simp only [zhN hi, cond_true, zX hi, Int.toNat_natCast, jH (u := .u8) hi, zsZ, Option.bind_some, drop_one hi, List.all_cons]
   cases hc : zdA s[i] with
   | true =>
    simp only [Bool.not_true, cond_false, Bool.true_and]
    rw [wri (by omega) (by omega), show ((i : Int) + 1) = ((i + 1 : Nat) : Int) by omega]
    exact zpa N s hs m (i + 1) (by omega) (by omega)
   | false => simp
  ·simp only [zhM hi, cond_false]
   rw [List.drop_eq_nil_of_le (by omega)]
   simp
theorem zpg (N : Nat) (s : List UInt8) (hs : s.length <= 100000) : ∀ (m i : Nat), i <= s.length -> s.length < m + i ->
  zZ N m s (s.length : Int) (i : Int) = some (if (s.drop i).all zdA = true then Sum.inr () else Sum.inl ())
 | 0, i, h, h' => by omega
 | m + 1, i, h, h' => by
  unfold zZ kz
  by_cases hi : i < s.length
  ·simp only [zhN hi, cond_true, zX hi, Int.toNat_natCast, jH (u := .u8) hi, zsZ, Option.bind_some, drop_one hi, List.all_cons]
   cases hc : zdA s[i] with
   | true =>
    simp only [Bool.not_true, cond_false, Bool.true_and]
    rw [wri (by omega) (by omega), show ((i : Int) + 1) = ((i + 1 : Nat) : Int) by omega]
    exact zpg N s hs m (i + 1) (by omega) (by omega)
   | false => simp
  ·simp only [zhM hi, cond_false]
   rw [List.drop_eq_nil_of_le (by omega)]
   simp
theorem zri (N : Nat) (s : List UInt8) (hs : s.length <= 100000) (k a : Int) : ∀ (m i : Nat), i <= s.length -> s.length < m + i ->
  z6 N m (i : Int) k s a = some (if (s.drop i).all zdA = true then Sum.inr (k, s, a) else Sum.inl (k, s, a))
 | 0, i, h, h' => by omega
 | m + 1, i, h, h' => by
  unfold z6 kA
  by_cases hi : i < s.length
  ·have ih := zri N s hs k a m (i + 1) (by omega) (by omega)
   simp only [zhN hi, cond_true, zX hi, Int.toNat_natCast, jH (u := .u8) hi, zsE, Option.bind_some, drop_one hi, List.all_cons]
   rw [wri (by omega) (by omega), show ((i : Int) + 1) = ((i + 1 : Nat) : Int) by omega, ih]
   unfold zdA
   cases hc : zfx s[i] with
   | true => simp only [Bool.not_true, cond_false, cond_true, Bool.true_and]
   | false =>
    simp only [Bool.not_false, cond_true, cond_false]
    cases h93 : s[i] == (93 : UInt8) with
    | true => simp only [bne, h93, Bool.not_true, cond_false, Bool.true_and]
    | false => simp only [bne, h93, Bool.not_false, cond_true, Bool.false_and, Bool.false_eq_true, if_false]
  ·simp only [zhM hi, cond_false]
   rw [List.drop_eq_nil_of_le (by omega)]
   simp
def zgl (t : Tok) : Bool := if t.1 = 4 then t.2.1.all zdA else (t.1 == 5 || t.1 == 6)
theorem zqf (t : Tok) (h : t.2.1.length <= 2000) : wo 3000 t = some (zgl t, ()) := by
 obtain ⟨k, s, a⟩ := t
 unfold wo zgl
 simp only at h |-
 by_cases h4 : k = 4
 ·subst h4
  have := zri 3000 s (by omega) 4 a 3000 0 (by omega) (by omega)
  rw [show ((0 : Nat) : Int) = (0 : Int) from rfl, List.drop_zero] at this
  simp only [show ((4 : Int) != 4) = false from rfl, cond_false, this, Option.bind_some, if_true]
  cases s.all zdA <;> rfl
 ·have : (k != (4 : Int)) = true := by simpa using h4
  simp only [this, cond_true, if_neg h4]
  cases k == (5 : Int) <;> rfl
theorem zm8 {p : UInt8 -> Bool} {c : UInt8} (hc : p c = false) : ∀ {l : List UInt8}, l.all p = true -> posOf c l = none := by
 intro l h
 cases hp : posOf c l with
 | none => rfl
 | some i =>
  obtain ⟨h1, h2, _⟩ := qT hp
  have h3 := List.all_eq_true.1 h c (List.mem_of_getElem? h2)
  rw [hc] at h3; cases h3
def qe (t : Tok) : Prop := (1 <= t.1 /\ t.1 <= 6) /\ t.2.1.length <= 2000 /\ (t.1 = 4 -> t.2.1 ≠ [] /\ posOf 32 t.2.1 = none)
theorem zp2 {b : List UInt8} {i n : Nat} {t : Tok} (hb : b.length <= 2000) (hi : i < b.length) (h : jU b i = some (t, n)) : qe t := by
 unfold jU at h
 rw [List.getElem?_eq_getElem hi] at h
 simp only at h
 unfold qe
 split at h
 ·cases h; simp
 ·split at h
  ·cases h; simp
  ·split at h
   ·cases h; simp
   ·split at h
    ·split at h
     ·rename_i r k hr
      have := zkl _ hr
      rw [List.length_drop] at this
      cases h
      refine ⟨⟨by simp, by simp⟩, by simp only; omega, by simp⟩
     ·cases h
    ·split at h
     ·split at h
      ·cases h
      ·split at h
       ·cases h
       ·split at h
        ·cases h
         refine ⟨⟨by simp, by simp⟩, ?_, by simp⟩
         simp only
         exact Nat.le_trans zbU hb
        ·cases h
     ·split at h
      ·rename_i hr
       have hle := zgx jv (b.drop i)
       rw [List.length_drop] at hle
       cases h
       refine ⟨⟨by simp, by simp⟩, Nat.le_trans zbU hb, fun _ => ?_⟩
       have e : slice b i (i + run jv (b.drop i)) = (b.drop i).take (run jv (b.drop i)) := by
        unfold slice; congr 1; omega
       refine ⟨?_, ?_⟩
       ·simp only [e]
        intro h0
        have := congrArg List.length h0
        rw [List.length_take, List.length_drop] at this
        simp at this; omega
       ·simp only [e]
        exact zm8 (p := jv) (by kernel_rfl) (zhd jv _)
      ·cases h
theorem zhA {b : List UInt8} (hb : b.length <= 2000) : ∀ (f i : Nat) (l : List Tok), i <= b.length -> xL b f i = .inl l ->
  ∃ (p : List Tok) (e : Tok), l = p ++ [e] /\ e.1 = 0 /\ (∀ t ∈ p, qe t) /\ p.length + i <= b.length
 | 0, i, l, hi, h => by cases h
 | f + 1, i, l, hi, h => by
  unfold xL at h
  cases hn : jU b i with
  | none => rw [hn] at h; cases h
  | some q =>
   obtain ⟨t, n⟩ := q
   rw [hn] at h
   simp only at h
   by_cases hl : b.length <= i
   ·rw [if_pos hl] at h
    cases h
    exact ⟨[], t, rfl, (zqZ hn).2 hl, (fun _ h => by cases h), by simpa using hi⟩
   ·rw [if_neg hl] at h
    have hnl := zgO (by omega) hn
    cases hr : xL b f n with
    | inr a => rw [hr] at h; cases h
    | inl l' =>
     rw [hr] at h
     cases h
     obtain ⟨p, e, h1, h2, h3, h4⟩ := zhA hb f n l' hnl.2 hr
     refine ⟨t :: p, e, by rw [h1]; rfl, h2, fun u hu => ?_, by simp only [List.length_cons]; omega⟩
     rcases List.mem_cons.1 hu with rfl | hu
     ·exact zp2 hb (by omega) hn
     ·exact h3 u hu
def kc (t : Tok) : UInt8 := nth .u8 [101, 115, 40, 41, 119, 113, 108] t.1.toNat
theorem zs8 {t : Tok} (h : qe t) : (kc t != 115) = !(t.1 == 1) := by
 obtain ⟨k, s, a⟩ := t
 obtain ⟨⟨h1, h2⟩, _⟩ := h
 simp only at h1 h2
 unfold kc
 simp only
 have : k = 1 \/ k = 2 \/ k = 3 \/ k = 4 \/ k = 5 \/ k = 6 := by omega
 rcases this with rfl | rfl | rfl | rfl | rfl | rfl <;> rfl
theorem zpc (l : List Tok) (hl : l.length <= 2000) (hk : ∀ t ∈ l, qe t) : ∀ (m i : Nat) (out : List UInt8), i <= l.length -> out.length <= i -> l.length < m + i ->
  qD 3000 m l out (i : Int) = some (out ++ (l.drop i).map kc)
 | 0, i, out, h, ho, h' => by omega
 | m + 1, i, out, h, ho, h' => by
  unfold qD zae
  by_cases hi : i < l.length
  ·have hok := hk l[i] (List.getElem_mem hi)
   simp only [zhN hi, cond_true, zX hi, Int.toNat_natCast, jH (u := uS1) hi, drop_one hi, List.map_cons]
   have ⟨k, hk1, hk2, hk3⟩ : ∃ k : Nat, l[i].1 = ((k : Nat) : Int) /\ 1 <= k /\ k <= 6 := ⟨l[i].1.toNat, by have := hok.1; omega, by have := hok.1; omega, by have := hok.1; omega⟩
   have hs : slice ([101, 115, 40, 41, 119, 113, 108] : List UInt8) k (k + 1) = [kc l[i]] := by
    unfold kc
    rw [hk1]
    have : k = 1 \/ k = 2 \/ k = 3 \/ k = 4 \/ k = 5 \/ k = 6 := by omega
    rcases this with rfl | rfl | rfl | rfl | rfl | rfl <;> rfl
   have hb := qY (a := k) (b := k + 1) (n := 7) (by omega) (by omega)
   have hw : IntKind.wrap .i64 (((k : Nat) : Int) + 1) = ((k + 1 : Nat) : Int) := by rw [wri (by omega) (by omega)]; rfl
   simp only [hk1, hw, hb, cond_true, Int.toNat_natCast, hs]
   have hd : decide (List.length out + List.length [kc l[i]] < 4611686018427387904) = true := by simp; omega
   rw [hd, cond_true, wri (by omega) (by omega), show ((i : Int) + 1) = ((i + 1 : Nat) : Int) by omega, zpc l hl hk m (i + 1) (out ++ [kc l[i]]) (by omega) (by simp; omega) (by omega), List.append_assoc]
   rfl
  ·simp only [zhM hi, cond_false]
   rw [List.drop_eq_nil_of_le (by omega)]
   simp
theorem zkT (l : List Tok) (hl : l.length <= 2000) (hk : ∀ t ∈ l, qe t) : kT 3000 l = some (l.map kc, ()) := by
 unfold kT
 have := zpc l hl hk 3000 0 [] (by omega) (by simp) (by omega)
 rw [show ((0 : Nat) : Int) = (0 : Int) from rfl, List.drop_zero, List.nil_append] at this
 rw [this]; rfl
def zao (s : List UInt8) : Int := match j0 3000 s with
 | some (n, _) => n
 | none => 0
def xz (s : List UInt8) : Int := match j2 3000 s with
 | some (n, _) => n
 | none => 0
theorem zmi (s : List UInt8) (hs : s.length <= 2000) : jO 3000 s = some (zao s, decide (0 < zao s), ()) := by
 obtain ⟨n, h1, h2, _⟩ := zfs s hs
 unfold zao
 rw [h2, h1]
theorem zoy (s : List UInt8) (hs : s.length <= 2000) : j0 3000 s = some (zao s, ()) := by
 obtain ⟨n, h1, h2, _⟩ := zfs s hs
 unfold zao
 rw [h2]
theorem zbT (s : List UInt8) (hs : s.length <= 2000) : jq 3000 s = some (xz s, decide (0 < xz s), ()) := by
 obtain ⟨n, h1, h2, _⟩ := ze9 s hs
 unfold xz
 rw [h2, h1]
theorem zoD (s : List UInt8) (hs : s.length <= 2000) : j2 3000 s = some (xz s, ()) := by
 obtain ⟨n, h1, h2, _⟩ := ze9 s hs
 unfold xz
 rw [h2]
theorem zgQ (s : List UInt8) (hs : s.length <= 2000) : 0 <= zao s /\ zao s <= 8 := by
 obtain ⟨n, h1, h2, h3⟩ := zfs s hs
 unfold zao
 rw [h2]; exact h3
theorem zht (s : List UInt8) (hs : s.length <= 2000) : 0 <= xz s /\ xz s <= 16 := by
 obtain ⟨n, h1, h2, h3⟩ := ze9 s hs
 unfold xz
 rw [h2]; exact h3
def zkW (s : List UInt8) : Int := match flS s with
 | some n => ((n : Nat) : Int)
 | none => 0
def vW (items : Bool) (s : List UInt8) : Int := cond items (xz s) (zkW s)
def zt {A : Type} (f : List UInt8 -> Option A) (op : A -> A -> A) : A -> List Tok -> Option A
 | _, [] => none
 | a, [t] => if t.1 = 4 then (f t.2.1).map (op a) else none
 | a, t :: s :: r => if t.1 = 4 then (match f t.2.1 with
  | none => none
  | some x => if s.1 = 1 then zt f op (op a x) r else none) else none
def fW (items : Bool) (s : List UInt8) : Option Int := if vW items s = 0 then none else some (vW items s)
def orI (a b : Int) : Int := kU .or .i64 a b
def WR (o : Option (Int × Bool × Unit)) (s : Option Int) : Prop := match s with
 | some x => o = some (x, true, ())
 | none => ∃ v, o = some (v, false, ())
theorem zni (s : List UInt8) (hs : s.length <= 2000) : kD 3000 s = some (zkW s, ()) := zoi s hs
theorem zmf (items : Bool) (l : List Tok) (hl : l.length <= 2000) (hk : ∀ t ∈ l, qe t) : ∀ (m i : Nat) (acc : Int), i <= l.length -> i % 2 = 0 -> l.length < m + i ->
  match zt (fW items) orI acc (l.drop i) with
  | some x => zG 3000 m l items acc (i : Int) = some (.inr (l, x)) /\ l.length % 2 = 1
  | none => zG 3000 m l items acc (i : Int) = some (.inl ()) \/ ∃ v, zG 3000 m l items acc (i : Int) = some (.inr (l, v)) /\ l.length % 2 = 0
 | 0, i, acc, h, hp, h' => by omega
 | m + 1, i, acc, h, hp, h' => by
  unfold zG jZ
  by_cases hi : i < l.length
  ·have hok := hk l[i] (List.getElem_mem hi)
   have hm : (Int.tmod ((i : Nat) : Int) 2 == 1) = false := by
    rw [show Int.tmod ((i : Nat) : Int) 2 = ((i % 2 : Nat) : Int) from rfl, hp]; rfl
   have hw : IntKind.wrap .i64 (((i : Nat) : Int) + 1) = ((i + 1 : Nat) : Int) := by rw [wri (by omega) (by omega)]; rfl
   simp only [zhN hi, cond_true, zX hi, Int.toNat_natCast, jH (u := uS1) hi, hm, cond_false, hw, zni _ hok.2.1, zoD _ hok.2.1, Option.bind_some]
   rw [drop_one hi]
   have hval : ∀ (R : Type) (a : Option R) (g : Int -> Option R), (cond items (cond (xz l[i].2.1 == 0) a (g (xz l[i].2.1))) (cond (zkW l[i].2.1 == 0) a (g (zkW l[i].2.1)))) = cond (vW items l[i].2.1 == 0) a (g (vW items l[i].2.1)) := by
    intro R a g; cases items <;> rfl
   rw [hval _ _ fun v => zG 3000 m l items (kU .or .i64 acc v) ((i + 1 : Nat) : Int)]
   by_cases h4 : l[i].1 = 4
   ·have e4 : (l[i].1 == (4 : Int)) = true := by rw [beq_iff_eq]; exact h4
    rw [e4, cond_true]
    by_cases h0 : vW items l[i].2.1 = 0
    ·have e0 : (vW items l[i].2.1 == 0) = true := by rw [beq_iff_eq]; exact h0
     rw [e0, cond_true]
     have : zt (fW items) orI acc (l[i] :: l.drop (i + 1)) = none := by
      cases l.drop (i + 1) with
      | nil => simp only [zt, if_pos h4, fW, if_pos h0, Option.map_none]
      | cons s r => simp only [zt, if_pos h4, fW, if_pos h0]
     rw [this]; exact .inl rfl
    ·have e0 : (vW items l[i].2.1 == 0) = false := by simpa using h0
     rw [e0, cond_false]
     cases m with
     | zero => omega
     | succ m =>
      unfold zG jZ
      by_cases hj : i + 1 < l.length
      ·have hm2 : (Int.tmod ((i + 1 : Nat) : Int) 2 == 1) = true := by
        rw [show Int.tmod ((i + 1 : Nat) : Int) 2 = (((i + 1) % 2 : Nat) : Int) from rfl, show (i + 1) % 2 = 1 by omega]; rfl
       have hw2 : IntKind.wrap .i64 (((i + 1 : Nat) : Int) + 1) = ((i + 2 : Nat) : Int) := by rw [wri (by omega) (by omega)]; rfl
       simp only [zhN hj, cond_true, zX hj, Int.toNat_natCast, jH (u := uS1) hj, hm2, hw2]
       rw [drop_one hj]
       have hs : zt (fW items) orI acc (l[i] :: l[i + 1] :: l.drop (i + 1 + 1)) = if l[i + 1].1 = 1 then zt (fW items) orI (orI acc (vW items l[i].2.1)) (l.drop (i + 2)) else none := by
        simp only [zt, if_pos h4, fW, if_neg h0]
       rw [hs]
       by_cases h1 : l[i + 1].1 = 1
       ·have e1 : (l[i + 1].1 != (1 : Int)) = false := by simpa using h1
        rw [if_pos h1, e1, cond_false]
        exact zmf items l hl hk m (i + 2) _ (by omega) (by omega) (by omega)
       ·have e1 : (l[i + 1].1 != (1 : Int)) = true := by simpa using h1
        rw [if_neg h1, e1, cond_true]
        exact .inl rfl
      ·simp only [zhM hj, cond_false]
       rw [List.drop_eq_nil_of_le (by omega)]
       have hs : zt (fW items) orI acc [l[i]] = some (orI acc (vW items l[i].2.1)) := by
        simp only [zt, if_pos h4, fW, if_neg h0, Option.map_some]
       rw [hs]
       exact ⟨rfl, by omega⟩
   ·have e4 : (l[i].1 == (4 : Int)) = false := by simpa using h4
    rw [e4, cond_false]
    have : zt (fW items) orI acc (l[i] :: l.drop (i + 1)) = none := by
     cases l.drop (i + 1) with
     | nil => simp only [zt, if_neg h4]
     | cons s r => simp only [zt, if_neg h4]
    rw [this]; exact .inl rfl
  ·simp only [zhM hi, cond_false]
   rw [List.drop_eq_nil_of_le (by omega)]
   simp only [zt]
   exact .inr ⟨_, rfl, by omega⟩
theorem zc2 (items : Bool) (l : List Tok) (hl : l.length <= 2000) (hk : ∀ t ∈ l, qe t) : WR (jJ 3000 l items) (zt (fW items) orI 0 l) := by
 unfold jJ
 have := zmf items l hl hk 3000 0 0 (by omega) (by omega) (by omega)
 rw [List.drop_zero, show ((0 : Nat) : Int) = (0 : Int) from rfl] at this
 unfold WR
 cases hs : zt (fW items) orI 0 l with
 | some x =>
  rw [hs] at this
  obtain ⟨h1, h2⟩ := this
  simp only [h1, Option.bind_some, zl]
  rw [show Int.tmod ((l.length : Nat) : Int) 2 = ((l.length % 2 : Nat) : Int) from rfl, h2]; rfl
 | none =>
  rw [hs] at this
  rcases this with h1 | ⟨v, h1, h2⟩
  ·simp only [h1, Option.bind_some, zl]; exact ⟨_, rfl⟩
  ·simp only [h1, Option.bind_some, zl]
   rw [show Int.tmod ((l.length : Nat) : Int) 2 = ((l.length % 2 : Nat) : Int) from rfl, h2]; exact ⟨_, rfl⟩
def fP (s : List UInt8) : Option UInt8 := (flS s).map UInt8.ofNat
def orP (a b : UInt8) : UInt8 := a ||| b
theorem zrD {a b : Nat} (ha : a < 32) (hb : b < 32) : ∃ c : Nat, orI ((a : Nat) : Int) ((b : Nat) : Int) = ((c : Nat) : Int) /\ c < 32 /\ UInt8.ofNat a ||| UInt8.ofNat b = UInt8.ofNat c := by
 have h : ((List.range 32).all fun a => (List.range 32).all fun b => decide (0 <= orI ((a : Nat) : Int) ((b : Nat) : Int)) && (decide ((orI ((a : Nat) : Int) ((b : Nat) : Int)).toNat < 32) && ((UInt8.ofNat a ||| UInt8.ofNat b) == UInt8.ofNat (orI ((a : Nat) : Int) ((b : Nat) : Int)).toNat))) = true := by kernel_rfl
 have h1 := List.all_eq_true.1 (List.all_eq_true.1 h a (List.mem_range.2 ha)) b (List.mem_range.2 hb)
 simp only [Bool.and_eq_true, decide_eq_true_eq, beq_iff_eq] at h1
 exact ⟨_, (Int.toNat_of_nonneg h1.1).symm, h1.2.1, h1.2.2⟩
theorem zhy {s : List UInt8} (h : flS s = none) : fW false s = none /\ fP s = none := by
 have e : vW false s = 0 := by unfold vW zkW; rw [cond_false, h]
 refine ⟨?_, ?_⟩
 ·unfold fW; rw [if_pos e]
 ·unfold fP; rw [h]; rfl
theorem zgW {s : List UInt8} {n : Nat} (h : flS s = some n) : fW false s = some ((n : Nat) : Int) /\ fP s = some (UInt8.ofNat n) := by
 have e : vW false s = ((n : Nat) : Int) := by unfold vW zkW; rw [cond_false, h]
 have := znp h
 refine ⟨?_, ?_⟩
 ·unfold fW; rw [if_neg (by rw [e]; omega), e]
 ·unfold fP; rw [h]; rfl
theorem zkF : ∀ (l : List Tok) (a : Nat), a < 32 -> ∃ o : Option Nat, (∀ x, o = some x -> x < 32) /\ zt (fW false) orI ((a : Nat) : Int) l = o.map (fun x => ((x : Nat) : Int)) /\ zt fP orP (UInt8.ofNat a) l = o.map UInt8.ofNat
 | [], a, ha => ⟨none, (fun x h => by cases h), rfl, rfl⟩
 | [t], a, ha => by
  by_cases h4 : t.1 = 4
  ·simp only [zt, if_pos h4]
   cases hf : flS t.2.1 with
   | none =>
    rw [(zhy hf).1, (zhy hf).2]
    exact ⟨none, (fun x h => by cases h), rfl, rfl⟩
   | some n =>
    obtain ⟨h1, h2⟩ := znp hf
    obtain ⟨c, c1, c2, c3⟩ := zrD ha h2
    rw [(zgW hf).1, (zgW hf).2]
    refine ⟨some c, (fun x h => by cases h; exact c2), ?_, ?_⟩
    ·simp only [Option.map_some, c1]
    ·simp only [Option.map_some, orP, c3]
  ·simp only [zt, if_neg h4]
   exact ⟨none, (fun x h => by cases h), rfl, rfl⟩
 | t :: s :: r, a, ha => by
  by_cases h4 : t.1 = 4
  ·simp only [zt, if_pos h4]
   cases hf : flS t.2.1 with
   | none =>
    rw [(zhy hf).1, (zhy hf).2]
    exact ⟨none, (fun x h => by cases h), rfl, rfl⟩
   | some n =>
    obtain ⟨h1, h2⟩ := znp hf
    obtain ⟨c, c1, c2, c3⟩ := zrD ha h2
    rw [(zgW hf).1, (zgW hf).2]
    simp only [c1, orP, c3]
    by_cases hs : s.1 = 1
    ·simp only [if_pos hs]
     exact zkF r c c2
    ·simp only [if_neg hs]
     exact ⟨none, (fun x h => by cases h), rfl, rfl⟩
  ·simp only [zt, if_neg h4]
   exact ⟨none, (fun x h => by cases h), rfl, rfl⟩
theorem zjE {s : List UInt8} (h : xz s = 0) : fW true s = none := by
 unfold fW; rw [if_pos (show vW true s = 0 from h)]
theorem zjd {s : List UInt8} (h : ¬ xz s = 0) : fW true s = some (xz s) := by
 unfold fW; rw [if_neg (show ¬ vW true s = 0 from h)]; rfl
theorem qA {α : Type} (t : α) (r : List α) : inb (0 : Int) (List.length (t :: r)) = true := zX (i := 0) (by simp)
theorem qy (t : Tok) (r : List Tok) : nth uS1 (@List.cons Tok t r) 0 = t := rfl
theorem zr {α : Type} (t : α) (r : List α) : ze (t :: r) 1 = r := by rw [zb2]; rfl
theorem zn {α : Type} (t : α) (r : List α) : zW (1 : Int) (t :: r) = true := zcD (a := 1) (by simp)
theorem zhG (y1 : List UInt8) (y2 : Int) (y3 : List UInt8) (z : Tok) (q : List Tok) (hz : z.1 = 0 \/ z.1 = 3) : ∀ (p : List Tok) (a : UInt8) (m : Nat), (∀ t ∈ p, qe t /\ t.1 ≠ 3) -> p.length < m ->
  match zt fP orP a p with
  | some x => (z.1 = 3 -> zA 3000 m (p ++ z :: q) y1 y2 y3 a = some (.inr (z :: q, y1, y2, y3, x))) /\ (z.1 ≠ 3 -> ∃ y, zA 3000 m (p ++ z :: q) y1 y2 y3 a = some (.inl y))
  | none => ∃ y, zA 3000 m (p ++ z :: q) y1 y2 y3 a = some (.inl y)
 | _, _, 0, _, h => by omega
 | [], a, m + 1, hp, h => by
  have e4 : (z.1 == (4 : Int)) = false := by rcases hz with e | e <;> rw [e] <;> rfl
  simp only [zt, List.nil_append]
  unfold zA qI
  simp only [qA, cond_true, zI, qy, Option.bind_some, e4, Bool.not_false]
  exact ⟨_, rfl⟩
 | [t], a, m + 1, hp, h => by
  obtain ⟨hok, hk⟩ := hp t (List.mem_cons_self ..)
  have e1 : (z.1 == (1 : Int)) = false := by rcases hz with e | e <;> rw [e] <;> rfl
  simp only [List.cons_append, List.nil_append]
  have hl1 : decide (List.length ([40] : List UInt8) + List.length (nth uS1 (@List.cons Tok t (z :: q)) 0).2.1 < 4611686018427387904) = true := by
   show decide (List.length ([40] : List UInt8) + List.length t.2.1 < 4611686018427387904) = true
   have := hok.2.1; simp; omega
  have hl2 : decide (List.length (([40] : List UInt8) ++ (nth uS1 (@List.cons Tok t (z :: q)) 0).2.1) + List.length ([41] : List UInt8) < 4611686018427387904) = true := by
   show decide (List.length (([40] : List UInt8) ++ t.2.1) + List.length ([41] : List UInt8) < 4611686018427387904) = true
   have := hok.2.1; simp; omega
  unfold zA qI
  simp only [qA, cond_true, zI, Option.bind_some, zr, zn, Bool.and_true, hl1, hl2]
  simp only [qy]
  by_cases h4 : t.1 = 4
  ·have e4 : (t.1 == (4 : Int)) = true := by rw [beq_iff_eq]; exact h4
   obtain ⟨h0, h32⟩ := hok.2.2 h4
   have hne : (t.2.1 != ([] : List UInt8)) = true := by simpa using h0
   simp only [e4, Bool.not_true, cond_false, zaG _ hok.2.1 h0 h32, zt, if_pos h4, fP]
   cases hf : flS t.2.1 with
   | none =>
    simp only [Option.bind_some, cond_false, Option.map_none]
    exact ⟨_, rfl⟩
   | some n =>
    simp only [Option.bind_some, cond_true, Option.map_some, hne, Bool.not_true, cond_false, orP]
    by_cases hzk : z.1 = 3
    ·have e5 : (z.1 == (3 : Int)) = true := by rw [beq_iff_eq]; exact hzk
     simp only [e5, cond_true]
     exact ⟨fun _ => (by first | rfl | trivial), fun h => absurd hzk h⟩
    ·have e5 : (z.1 == (3 : Int)) = false := by simpa using hzk
     simp only [e5, cond_false, e1, Bool.not_false, cond_true]
     exact ⟨fun h => absurd h hzk, fun _ => ⟨_, rfl⟩⟩
  ·have e4 : (t.1 == (4 : Int)) = false := by simpa using h4
   simp only [zt, if_neg h4, e4, Bool.not_false, cond_true]
   exact ⟨_, rfl⟩
 | t :: s :: r, a, m + 1, hp, h => by
  obtain ⟨hok, hk⟩ := hp t (List.mem_cons_self ..)
  obtain ⟨hok2, hk2⟩ := hp s (List.mem_cons_of_mem _ (List.mem_cons_self ..))
  have ek : (s.1 == (3 : Int)) = false := by simpa using hk2
  simp only [List.cons_append]
  have hl1 : decide (List.length ([40] : List UInt8) + List.length (nth uS1 (@List.cons Tok t (s :: (r ++ z :: q))) 0).2.1 < 4611686018427387904) = true := by
   show decide (List.length ([40] : List UInt8) + List.length t.2.1 < 4611686018427387904) = true
   have := hok.2.1; simp; omega
  have hl2 : decide (List.length (([40] : List UInt8) ++ (nth uS1 (@List.cons Tok t (s :: (r ++ z :: q))) 0).2.1) + List.length ([41] : List UInt8) < 4611686018427387904) = true := by
   show decide (List.length (([40] : List UInt8) ++ t.2.1) + List.length ([41] : List UInt8) < 4611686018427387904) = true
   have := hok.2.1; simp; omega
  unfold zA qI
  simp only [qA, cond_true, zI, Option.bind_some, zr, zn, Bool.and_true, hl1, hl2]
  simp only [qy]
  by_cases h4 : t.1 = 4
  ·have e4 : (t.1 == (4 : Int)) = true := by rw [beq_iff_eq]; exact h4
   obtain ⟨h0, h32⟩ := hok.2.2 h4
   have hne : (t.2.1 != ([] : List UInt8)) = true := by simpa using h0
   simp only [e4, Bool.not_true, cond_false, zaG _ hok.2.1 h0 h32, zt, if_pos h4, fP]
   cases hf : flS t.2.1 with
   | none =>
    simp only [Option.bind_some, cond_false, Option.map_none]
    exact ⟨_, rfl⟩
   | some n =>
    simp only [Option.bind_some, cond_true, Option.map_some, hne, Bool.not_true, cond_false, orP]
    simp only [ek, cond_false]
    by_cases hs : s.1 = 1
    ·have e5 : (s.1 == (1 : Int)) = true := by rw [beq_iff_eq]; exact hs
     simp only [e5, Bool.not_true, cond_false, if_pos hs]
     exact zhG y1 y2 y3 z q hz r _ m (fun u hu => hp u (List.mem_cons_of_mem _ (List.mem_cons_of_mem _ hu))) (by simp only [List.length_cons] at h; omega)
    ·have e5 : (s.1 == (1 : Int)) = false := by simpa using hs
     simp only [e5, Bool.not_false, cond_true, if_neg hs]
     exact ⟨_, rfl⟩
  ·have e4 : (t.1 == (4 : Int)) = false := by simpa using h4
   simp only [zt, if_neg h4, e4, Bool.not_false, cond_true]
   exact ⟨_, rfl⟩
theorem zfd (y1 : List UInt8) (y2 : Int) (y3 : List (Int × Int)) (y4 : Int) (y5 : Bool) (z : Tok) (q : List Tok) (hz : z.1 = 0 \/ z.1 = 3) : ∀ (p : List Tok) (a : UInt8) (m : Nat), (∀ t ∈ p, qe t /\ t.1 ≠ 3) -> p.length < m ->
  match zt fP orP a p with
  | some x => (z.1 = 3 -> zy 3000 m (p ++ z :: q) y1 y2 y3 y4 y5 a = some (.inr (z :: q, y1, y2, y3, y4, y5, x))) /\ (z.1 ≠ 3 -> ∃ y, zy 3000 m (p ++ z :: q) y1 y2 y3 y4 y5 a = some (.inl y))
  | none => ∃ y, zy 3000 m (p ++ z :: q) y1 y2 y3 y4 y5 a = some (.inl y)
 | _, _, 0, _, h => by omega
 | [], a, m + 1, hp, h => by
  have e4 : (z.1 == (4 : Int)) = false := by rcases hz with e | e <;> rw [e] <;> rfl
  simp only [zt, List.nil_append]
  unfold zy qo
  simp only [qA, cond_true, zI, qy, Option.bind_some, e4, Bool.not_false]
  exact ⟨_, rfl⟩
 | [t], a, m + 1, hp, h => by
  obtain ⟨hok, hk⟩ := hp t (List.mem_cons_self ..)
  have e1 : (z.1 == (1 : Int)) = false := by rcases hz with e | e <;> rw [e] <;> rfl
  simp only [List.cons_append, List.nil_append]
  have hl1 : decide (List.length ([40] : List UInt8) + List.length (nth uS1 (@List.cons Tok t (z :: q)) 0).2.1 < 4611686018427387904) = true := by
   show decide (List.length ([40] : List UInt8) + List.length t.2.1 < 4611686018427387904) = true
   have := hok.2.1; simp; omega
  have hl2 : decide (List.length (([40] : List UInt8) ++ (nth uS1 (@List.cons Tok t (z :: q)) 0).2.1) + List.length ([41] : List UInt8) < 4611686018427387904) = true := by
   show decide (List.length (([40] : List UInt8) ++ t.2.1) + List.length ([41] : List UInt8) < 4611686018427387904) = true
   have := hok.2.1; simp; omega
  unfold zy qo
  simp only [qA, cond_true, zI, Option.bind_some, zr, zn, Bool.and_true, hl1, hl2]
  simp only [qy]
  by_cases h4 : t.1 = 4
  ·have e4 : (t.1 == (4 : Int)) = true := by rw [beq_iff_eq]; exact h4
   obtain ⟨h0, h32⟩ := hok.2.2 h4
   have hne : (t.2.1 != ([] : List UInt8)) = true := by simpa using h0
   simp only [e4, Bool.not_true, cond_false, zaG _ hok.2.1 h0 h32, zt, if_pos h4, fP]
   cases hf : flS t.2.1 with
   | none =>
    simp only [Option.bind_some, cond_false, Option.map_none]
    exact ⟨_, rfl⟩
   | some n =>
    simp only [Option.bind_some, cond_true, Option.map_some, hne, Bool.not_true, cond_false, orP]
    by_cases hzk : z.1 = 3
    ·have e5 : (z.1 == (3 : Int)) = true := by rw [beq_iff_eq]; exact hzk
     simp only [e5, cond_true]
     exact ⟨fun _ => (by first | rfl | trivial), fun h => absurd hzk h⟩
    ·have e5 : (z.1 == (3 : Int)) = false := by simpa using hzk
     simp only [e5, cond_false, e1, Bool.not_false, cond_true]
     exact ⟨fun h => absurd h hzk, fun _ => ⟨_, rfl⟩⟩
  ·have e4 : (t.1 == (4 : Int)) = false := by simpa using h4
   simp only [zt, if_neg h4, e4, Bool.not_false, cond_true]
   exact ⟨_, rfl⟩
 | t :: s :: r, a, m + 1, hp, h => by
  obtain ⟨hok, hk⟩ := hp t (List.mem_cons_self ..)
  obtain ⟨hok2, hk2⟩ := hp s (List.mem_cons_of_mem _ (List.mem_cons_self ..))
  have ek : (s.1 == (3 : Int)) = false := by simpa using hk2
  simp only [List.cons_append]
  have hl1 : decide (List.length ([40] : List UInt8) + List.length (nth uS1 (@List.cons Tok t (s :: (r ++ z :: q))) 0).2.1 < 4611686018427387904) = true := by
   show decide (List.length ([40] : List UInt8) + List.length t.2.1 < 4611686018427387904) = true
   have := hok.2.1; simp; omega
  have hl2 : decide (List.length (([40] : List UInt8) ++ (nth uS1 (@List.cons Tok t (s :: (r ++ z :: q))) 0).2.1) + List.length ([41] : List UInt8) < 4611686018427387904) = true := by
   show decide (List.length (([40] : List UInt8) ++ t.2.1) + List.length ([41] : List UInt8) < 4611686018427387904) = true
   have := hok.2.1; simp; omega
  unfold zy qo
  simp only [qA, cond_true, zI, Option.bind_some, zr, zn, Bool.and_true, hl1, hl2]
  simp only [qy]
  by_cases h4 : t.1 = 4
  ·have e4 : (t.1 == (4 : Int)) = true := by rw [beq_iff_eq]; exact h4
   obtain ⟨h0, h32⟩ := hok.2.2 h4
   have hne : (t.2.1 != ([] : List UInt8)) = true := by simpa using h0
   simp only [e4, Bool.not_true, cond_false, zaG _ hok.2.1 h0 h32, zt, if_pos h4, fP]
   cases hf : flS t.2.1 with
   | none =>
    simp only [Option.bind_some, cond_false, Option.map_none]
    exact ⟨_, rfl⟩
   | some n =>
    simp only [Option.bind_some, cond_true, Option.map_some, hne, Bool.not_true, cond_false, orP]
    simp only [ek, cond_false]
    by_cases hs : s.1 = 1
    ·have e5 : (s.1 == (1 : Int)) = true := by rw [beq_iff_eq]; exact hs
     simp only [e5, Bool.not_true, cond_false, if_pos hs]
     exact zfd y1 y2 y3 y4 y5 z q hz r _ m (fun u hu => hp u (List.mem_cons_of_mem _ (List.mem_cons_of_mem _ hu))) (by simp only [List.length_cons] at h; omega)
    ·have e5 : (s.1 == (1 : Int)) = false := by simpa using hs
     simp only [e5, Bool.not_false, cond_true, if_neg hs]
     exact ⟨_, rfl⟩
  ·have e4 : (t.1 == (4 : Int)) = false := by simpa using h4
   simp only [zt, if_neg h4, e4, Bool.not_false, cond_true]
   exact ⟨_, rfl⟩
theorem zhQ (y1 : List UInt8) (y2 : Int) (y3 : List (Int × Int)) (y4 : Int) (y5 : Bool) (z : Tok) (q : List Tok) (hz : z.1 = 0 \/ z.1 = 3) : ∀ (p : List Tok) (a : UInt8) (m : Nat), (∀ t ∈ p, qe t /\ t.1 ≠ 0) -> p.length < m ->
  match zt fP orP a p with
  | some x => (z.1 = 0 -> zB 3000 m (p ++ z :: q) y1 y2 y3 y4 y5 a = some (.inr (z :: q, y1, y2, y3, y4, y5, x))) /\ (z.1 ≠ 0 -> ∃ y, zB 3000 m (p ++ z :: q) y1 y2 y3 y4 y5 a = some (.inl y))
  | none => ∃ y, zB 3000 m (p ++ z :: q) y1 y2 y3 y4 y5 a = some (.inl y)
 | _, _, 0, _, h => by omega
 | [], a, m + 1, hp, h => by
  have e4 : (z.1 == (4 : Int)) = false := by rcases hz with e | e <;> rw [e] <;> rfl
  simp only [zt, List.nil_append]
  unfold zB qq
  simp only [qA, cond_true, zI, qy, Option.bind_some, e4, Bool.not_false]
  exact ⟨_, rfl⟩
 | [t], a, m + 1, hp, h => by
  obtain ⟨hok, hk⟩ := hp t (List.mem_cons_self ..)
  have e1 : (z.1 == (1 : Int)) = false := by rcases hz with e | e <;> rw [e] <;> rfl
  simp only [List.cons_append, List.nil_append]
  have hl1 : decide (List.length ([40] : List UInt8) + List.length (nth uS1 (@List.cons Tok t (z :: q)) 0).2.1 < 4611686018427387904) = true := by
   show decide (List.length ([40] : List UInt8) + List.length t.2.1 < 4611686018427387904) = true
   have := hok.2.1; simp; omega
  have hl2 : decide (List.length (([40] : List UInt8) ++ (nth uS1 (@List.cons Tok t (z :: q)) 0).2.1) + List.length ([41] : List UInt8) < 4611686018427387904) = true := by
   show decide (List.length (([40] : List UInt8) ++ t.2.1) + List.length ([41] : List UInt8) < 4611686018427387904) = true
   have := hok.2.1; simp; omega
  unfold zB qq
  simp only [qA, cond_true, zI, Option.bind_some, zr, zn, Bool.and_true, hl1, hl2]
  simp only [qy]
  by_cases h4 : t.1 = 4
  ·have e4 : (t.1 == (4 : Int)) = true := by rw [beq_iff_eq]; exact h4
   obtain ⟨h0, h32⟩ := hok.2.2 h4
   have hne : (t.2.1 != ([] : List UInt8)) = true := by simpa using h0
   simp only [e4, Bool.not_true, cond_false, zaG _ hok.2.1 h0 h32, zt, if_pos h4, fP]
   cases hf : flS t.2.1 with
   | none =>
    simp only [Option.bind_some, cond_false, Option.map_none]
    exact ⟨_, rfl⟩
   | some n =>
    simp only [Option.bind_some, cond_true, Option.map_some, hne, Bool.not_true, cond_false, orP]
    by_cases hzk : z.1 = 0
    ·have e5 : (z.1 == (0 : Int)) = true := by rw [beq_iff_eq]; exact hzk
     simp only [e5, cond_true]
     exact ⟨fun _ => (by first | rfl | trivial), fun h => absurd hzk h⟩
    ·have e5 : (z.1 == (0 : Int)) = false := by simpa using hzk
     simp only [e5, cond_false, e1, Bool.not_false, cond_true]
     exact ⟨fun h => absurd h hzk, fun _ => ⟨_, rfl⟩⟩
  ·have e4 : (t.1 == (4 : Int)) = false := by simpa using h4
   simp only [zt, if_neg h4, e4, Bool.not_false, cond_true]
   exact ⟨_, rfl⟩
 | t :: s :: r, a, m + 1, hp, h => by
  obtain ⟨hok, hk⟩ := hp t (List.mem_cons_self ..)
  obtain ⟨hok2, hk2⟩ := hp s (List.mem_cons_of_mem _ (List.mem_cons_self ..))
  have ek : (s.1 == (0 : Int)) = false := by simpa using hk2
  simp only [List.cons_append]
  have hl1 : decide (List.length ([40] : List UInt8) + List.length (nth uS1 (@List.cons Tok t (s :: (r ++ z :: q))) 0).2.1 < 4611686018427387904) = true := by
   show decide (List.length ([40] : List UInt8) + List.length t.2.1 < 4611686018427387904) = true
   have := hok.2.1; simp; omega
  have hl2 : decide (List.length (([40] : List UInt8) ++ (nth uS1 (@List.cons Tok t (s :: (r ++ z :: q))) 0).2.1) + List.length ([41] : List UInt8) < 4611686018427387904) = true := by
   show decide (List.length (([40] : List UInt8) ++ t.2.1) + List.length ([41] : List UInt8) < 4611686018427387904) = true
   have := hok.2.1; simp; omega
  unfold zB qq
  simp only [qA, cond_true, zI, Option.bind_some, zr, zn, Bool.and_true, hl1, hl2]
  simp only [qy]
  by_cases h4 : t.1 = 4
  ·have e4 : (t.1 == (4 : Int)) = true := by rw [beq_iff_eq]; exact h4
   obtain ⟨h0, h32⟩ := hok.2.2 h4
   have hne : (t.2.1 != ([] : List UInt8)) = true := by simpa using h0
   simp only [e4, Bool.not_true, cond_false, zaG _ hok.2.1 h0 h32, zt, if_pos h4, fP]
   cases hf : flS t.2.1 with
   | none =>
    simp only [Option.bind_some, cond_false, Option.map_none]
    exact ⟨_, rfl⟩
   | some n =>
    simp only [Option.bind_some, cond_true, Option.map_some, hne, Bool.not_true, cond_false, orP]
    simp only [ek, cond_false]
    by_cases hs : s.1 = 1
    ·have e5 : (s.1 == (1 : Int)) = true := by rw [beq_iff_eq]; exact hs
     simp only [e5, Bool.not_true, cond_false, if_pos hs]
     exact zhQ y1 y2 y3 y4 y5 z q hz r _ m (fun u hu => hp u (List.mem_cons_of_mem _ (List.mem_cons_of_mem _ hu))) (by simp only [List.length_cons] at h; omega)
    ·have e5 : (s.1 == (1 : Int)) = false := by simpa using hs
     simp only [e5, Bool.not_false, cond_true, if_neg hs]
     exact ⟨_, rfl⟩
  ·have e4 : (t.1 == (4 : Int)) = false := by simpa using h4
   simp only [zt, if_neg h4, e4, Bool.not_false, cond_true]
   exact ⟨_, rfl⟩
theorem zfH (y1 : List UInt8) (y2 : Int) (y3 : List (Int × Int)) (y5 : UInt8) (z : Tok) (q : List Tok) (hz : z.1 = 0 \/ z.1 = 3) : ∀ (p : List Tok) (a : Int) (m : Nat), (∀ t ∈ p, qe t /\ t.1 ≠ 3) -> p.length < m ->
  match zt (fW true) orI a p with
  | some x => (z.1 = 3 -> zz 3000 m (p ++ z :: q) y1 y2 y3 a y5 = some (.inr (z :: q, y1, y2, y3, x, y5))) /\ (z.1 ≠ 3 -> ∃ y, zz 3000 m (p ++ z :: q) y1 y2 y3 a y5 = some (.inl y))
  | none => ∃ y, zz 3000 m (p ++ z :: q) y1 y2 y3 a y5 = some (.inl y)
 | _, _, 0, _, h => by omega
 | [], a, m + 1, hp, h => by
  have e4 : (z.1 == (4 : Int)) = false := by rcases hz with e | e <;> rw [e] <;> rfl
  simp only [zt, List.nil_append]
  unfold zz qu
  simp only [qA, cond_true, zI, qy, Option.bind_some, e4, Bool.not_false]
  exact ⟨_, rfl⟩
 | [t], a, m + 1, hp, h => by
  obtain ⟨hok, hk⟩ := hp t (List.mem_cons_self ..)
  have e1 : (z.1 == (1 : Int)) = false := by rcases hz with e | e <;> rw [e] <;> rfl
  simp only [List.cons_append, List.nil_append]
  unfold zz qu
  simp only [qA, cond_true, zI, qy, Option.bind_some, zr, zn, Bool.and_true]
  by_cases h4 : t.1 = 4
  ·have e4 : (t.1 == (4 : Int)) = true := by rw [beq_iff_eq]; exact h4
   have hi := zht _ hok.2.1
   simp only [e4, Bool.not_true, cond_false, zbT _ hok.2.1, Option.bind_some, zt, if_pos h4]
   by_cases h0 : xz t.2.1 = 0
   ·have hd : decide (0 < xz t.2.1) = false := by simp; omega
    simp only [zjE h0, Option.map_none, hd, Bool.not_false, cond_true]
    exact ⟨_, rfl⟩
   ·have hd : decide (0 < xz t.2.1) = true := by simp; omega
    simp only [zjd h0, Option.map_some, hd, Bool.not_true, cond_false, orI]
    by_cases hzk : z.1 = 3
    ·have e5 : (z.1 == (3 : Int)) = true := by rw [beq_iff_eq]; exact hzk
     simp only [e5, cond_true]
     exact ⟨fun _ => (by first | rfl | trivial), fun h => absurd hzk h⟩
    ·have e5 : (z.1 == (3 : Int)) = false := by simpa using hzk
     simp only [e5, cond_false, e1, Bool.not_false, cond_true]
     exact ⟨fun h => absurd h hzk, fun _ => ⟨_, rfl⟩⟩
  ·have e4 : (t.1 == (4 : Int)) = false := by simpa using h4
   simp only [zt, if_neg h4, e4, Bool.not_false, cond_true]
   exact ⟨_, rfl⟩
 | t :: s :: r, a, m + 1, hp, h => by
  obtain ⟨hok, hk⟩ := hp t (List.mem_cons_self ..)
  obtain ⟨hok2, hk2⟩ := hp s (List.mem_cons_of_mem _ (List.mem_cons_self ..))
  have ek : (s.1 == (3 : Int)) = false := by simpa using hk2
  simp only [List.cons_append]
  unfold zz qu
  simp only [qA, cond_true, zI, qy, Option.bind_some, zr, zn, Bool.and_true]
  by_cases h4 : t.1 = 4
  ·have e4 : (t.1 == (4 : Int)) = true := by rw [beq_iff_eq]; exact h4
   have hi := zht _ hok.2.1
   simp only [e4, Bool.not_true, cond_false, zbT _ hok.2.1, Option.bind_some, zt, if_pos h4]
   by_cases h0 : xz t.2.1 = 0
   ·have hd : decide (0 < xz t.2.1) = false := by simp; omega
    simp only [zjE h0, hd, Bool.not_false, cond_true]
    exact ⟨_, rfl⟩
   ·have hd : decide (0 < xz t.2.1) = true := by simp; omega
    simp only [zjd h0, hd, Bool.not_true, cond_false, orI]
    simp only [ek, cond_false]
    by_cases hs : s.1 = 1
    ·have e5 : (s.1 == (1 : Int)) = true := by rw [beq_iff_eq]; exact hs
     simp only [e5, Bool.not_true, cond_false, if_pos hs]
     exact zfH y1 y2 y3 y5 z q hz r _ m (fun u hu => hp u (List.mem_cons_of_mem _ (List.mem_cons_of_mem _ hu))) (by simp only [List.length_cons] at h; omega)
    ·have e5 : (s.1 == (1 : Int)) = false := by simpa using hs
     simp only [e5, Bool.not_false, cond_true, if_neg hs]
     exact ⟨_, rfl⟩
  ·have e4 : (t.1 == (4 : Int)) = false := by simpa using h4
   simp only [zt, if_neg h4, e4, Bool.not_false, cond_true]
   exact ⟨_, rfl⟩
def zcK : List Tok -> Option (List Tok × List Tok)
 | [] => none
 | t :: r => if t.1 = 3 then some ([], r) else (zcK r).map fun p => (t :: p.1, p.2)
theorem km : ∀ {l p q : List Tok}, zcK l = some (p, q) -> ∃ z : Tok, z.1 = 3 /\ l = p ++ z :: q /\ ∀ t ∈ p, t.1 ≠ 3
 | [], p, q, h => by cases h
 | t :: r, p, q, h => by
  unfold zcK at h
  by_cases h3 : t.1 = 3
  ·rw [if_pos h3] at h
   cases h
   exact ⟨t, h3, rfl, (fun _ h => by cases h)⟩
  ·rw [if_neg h3] at h
   cases hc : zcK r with
   | none => rw [hc] at h; cases h
   | some pq =>
    rw [hc] at h
    cases h
    obtain ⟨z, h1, h2, h4⟩ := km (p := pq.1) (q := pq.2) hc
    refine ⟨z, h1, by rw [h2]; rfl, fun u hu => ?_⟩
    rcases List.mem_cons.1 hu with rfl | hu
    ·exact h3
    ·exact h4 u hu
theorem zhm {z : Tok} {q : List Tok} (hz : z.1 = 3) : ∀ {p : List Tok}, (∀ t ∈ p, t.1 ≠ 3) -> zcK (p ++ z :: q) = some (p, q)
 | [], _ => by unfold zcK; simp only [List.nil_append, if_pos hz]
 | t :: r, h => by
  unfold zcK
  simp only [List.cons_append, if_neg (h t (List.mem_cons_self ..)), zhm hz (p := r) (fun u hu => h u (List.mem_cons_of_mem _ hu)), Option.map_some]
theorem znL : ∀ {l : List Tok}, (∀ t ∈ l, t.1 ≠ 3) -> zcK l = none
 | [], _ => rfl
 | t :: r, h => by
  unfold zcK
  rw [if_neg (h t (List.mem_cons_self ..)), znL (l := r) (fun u hu => h u (List.mem_cons_of_mem _ hu))]; rfl
theorem zaH : ∀ {l : List Tok}, zcK l = none -> ∀ t ∈ l, t.1 ≠ 3
 | [], _, _, h => by cases h
 | t :: r, h, u, hu => by
  unfold zcK at h
  by_cases h3 : t.1 = 3
  ·rw [if_pos h3] at h; cases h
  ·rw [if_neg h3] at h
   cases hc : zcK r with
   | some pq => rw [hc] at h; cases h
   | none =>
    rcases List.mem_cons.1 hu with rfl | hu
    ·exact h3
    ·exact zaH hc u hu
theorem zfD {A : Type} {f : List UInt8 -> Option A} {op : A -> A -> A} : ∀ {l : List Tok} {a x : A}, zt f op a l = some x -> ∀ t ∈ l, t.1 ≠ 3
 | [], a, x, h, t, ht => by cases ht
 | [t], a, x, h, u, hu => by
  rw [List.mem_singleton.1 hu]
  by_cases h4 : t.1 = 4
  ·omega
  ·simp only [zt, if_neg h4] at h; cases h
 | t :: s :: r, a, x, h, u, hu => by
  by_cases h4 : t.1 = 4
  ·simp only [zt, if_pos h4] at h
   cases hf : f t.2.1 with
   | none => rw [hf] at h; cases h
   | some y =>
    rw [hf] at h
    by_cases h1 : s.1 = 1
    ·simp only [if_pos h1] at h
     rcases List.mem_cons.1 hu with rfl | hu
     ·omega
     ·rcases List.mem_cons.1 hu with rfl | hu
      ·omega
      ·exact zfD h u hu
    ·simp only [if_neg h1] at h; cases h
  ·simp only [zt, if_neg h4] at h; cases h
def brS (items : Bool) : List Tok -> Option (Int × List Tok)
 | [] => none
 | a :: r => if a.1 = 2 then (match zcK r with
  | none => none
  | some ([], q) => cond items none (some (0, q))
  | some (t :: p, q) => (zt (fW items) orI 0 (t :: p)).map fun x => (x, q)) else none
def zhK : Option (Int × List Tok) -> Option Int
 | some (x, []) => some x
 | _ => none
theorem zkZ {items : Bool} {l q : List Tok} {x : Int} (h : brS items l = some (x, q)) : ∃ pre, l = pre ++ q := by
 cases l with
 | nil => cases h
 | cons a r =>
  unfold brS at h
  simp only at h
  by_cases h2 : a.1 = 2
  ·rw [if_pos h2] at h
   cases hc : zcK r with
   | none => rw [hc] at h; cases h
   | some pq =>
    obtain ⟨p, q'⟩ := pq
    obtain ⟨z, z1, z2, z3⟩ := km hc
    have hq : q' = q := by
     rw [hc] at h
     cases p with
     | nil => cases items <;> simp only [cond_true, cond_false] at h <;> cases h <;> rfl
     | cons t p =>
      simp only at h
      cases hw : zt (fW items) orI 0 (t :: p) with
      | none => rw [hw] at h; cases h
      | some y => rw [hw] at h; cases h; rfl
    rw [<- hq, z2]
    exact ⟨a :: p ++ [z], by simp⟩
  ·rw [if_neg h2] at h; cases h
theorem zqB {items : Bool} {s d : Tok} (hs : s.1 ≠ 3) (hd : d.1 ≠ 3) (hs2 : s.1 ≠ 2) : ∀ (l : List Tok), brS items (l ++ [s, d]) = (brS items l).map fun p => (p.1, p.2 ++ [s, d])
 | [] => by simp only [List.nil_append, brS, if_neg hs2, Option.map_none]
 | a :: r => by
  simp only [List.cons_append, brS]
  by_cases h2 : a.1 = 2
  ·simp only [if_pos h2]
   cases hc : zcK r with
   | none =>
    have := zaH hc
    rw [znL (l := r ++ [s, d]) (fun t ht => by
     rcases List.mem_append.1 ht with h | h
     ·exact this t h
     ·simp only [List.mem_cons, List.not_mem_nil, or_false] at h
      rcases h with rfl | rfl
      ·exact hs
      ·exact hd)]
    rfl
   | some pq =>
    obtain ⟨p, q⟩ := pq
    obtain ⟨z, z1, z2, z3⟩ := km hc
    rw [z2, show p ++ z :: q ++ [s, d] = p ++ z :: (q ++ [s, d]) from by simp, zhm z1 z3]
    cases p with
    | nil => cases items <;> rfl
    | cons t p =>
     simp only [Option.map_map]
     cases zt (fW items) orI 0 (t :: p) <;> rfl
  ·simp only [if_neg h2, Option.map_none]
theorem zol {α : Type} (l : List α) (h : 2 <= l.length) : ∃ (a : α) (m : List α) (z : α), l = a :: (m ++ [z]) := by
 cases l with
 | nil => simp at h
 | cons a r =>
  cases r with
  | nil => simp at h
  | cons b r => exact ⟨a, (b :: r).dropLast, (b :: r).getLast (by simp), by rw [List.dropLast_concat_getLast]⟩
theorem zoc (a : Tok) (m : List Tok) (z : Tok) : nth uS1 (@List.cons Tok a (m ++ [z])) (m.length + 1) = z := by
 unfold nth
 simp
theorem zhB (items : Bool) (l : List Tok) (hl : l.length <= 2000) (hk : ∀ t ∈ l, qe t) : WR (qW 3000 l items) (zhK (brS items l)) := by
 by_cases h2 : l.length < 2
 ·have e : decide ((((List.length l) : Nat) : Int) < 2) = true := by simp; omega
  unfold qW
  simp only [e, cond_true]
  have : zhK (brS items l) = none := by
   match l, h2 with
   | [], _ => rfl
   | [a], _ =>
    unfold brS
    by_cases ha : a.1 = 2
    ·simp only [if_pos ha, zcK]; rfl
    ·simp only [if_neg ha]; rfl
  rw [this]; exact ⟨_, rfl⟩
 ·obtain ⟨a, m, z, rfl⟩ := zol l (by omega)
  have hlen : (a :: (m ++ [z])).length = m.length + 2 := by simp
  have hm2 : m.length + 2 <= 2000 := by rw [<- hlen]; exact hl
  have e1 : decide ((((List.length (a :: (m ++ [z]))) : Nat) : Int) < 2) = false := by rw [hlen]; simp; omega
  have e2 : IntKind.wrap .i64 ((((List.length (a :: (m ++ [z]))) : Nat) : Int) - 1) = ((m.length + 1 : Nat) : Int) := by rw [hlen, wri (by omega) (by omega)]; omega
  have e3 : inb ((m.length + 1 : Nat) : Int) (List.length (a :: (m ++ [z]))) = true := zX (by rw [hlen]; omega)
  have e4 := qY (a := 1) (b := m.length + 1) (n := (a :: (m ++ [z])).length) (by omega) (by rw [hlen]; omega)
  rw [show ((1 : Nat) : Int) = (1 : Int) from rfl] at e4
  have e5 : slice (a :: (m ++ [z])) 1 (m.length + 1) = m := by unfold slice; simp
  have e6 : ((((List.length (a :: (m ++ [z]))) : Nat) : Int) == (2 : Int)) = decide (m = []) := by
   rw [hlen]
   cases m with
   | nil => rfl
   | cons b m =>
    have : ((((b :: m).length + 2 : Nat) : Int) == (2 : Int)) = false := by simp; omega
    rw [this]; simp
  unfold qW
  simp only [e1, cond_false, qA, cond_true, qy, e2, e3, Int.toNat_natCast, zoc, e4, e5, e6, Bool.and_true]
  simp only [brS]
  by_cases ha : a.1 = 2
  ·have b1 : (a.1 != (2 : Int)) = false := by simpa using ha
   simp only [b1, cond_false, if_pos ha]
   by_cases hz : z.1 = 3
   ·have b2 : (z.1 != (3 : Int)) = false := by simpa using hz
    simp only [b2, cond_false]
    by_cases hm : ∀ t ∈ m, t.1 ≠ 3
    ·rw [show m ++ [z] = m ++ z :: [] from rfl, zhm hz hm]
     cases m with
     | nil => cases items <;> first | exact ⟨_, rfl⟩ | rfl
     | cons b m =>
      have hw := zc2 items (b :: m) (by omega) (fun t ht => hk t (List.mem_cons_of_mem _ (List.mem_append_left _ ht)))
      simp only [show decide ((b :: m) = []) = false from rfl, cond_false]
      cases hs : zt (fW items) orI 0 (b :: m) with
      | some x =>
       rw [hs] at hw
       simp only [WR] at hw
       rw [hw]; rfl
      | none =>
       rw [hs] at hw
       obtain ⟨v, hv⟩ := hw
       rw [hv]; exact ⟨_, rfl⟩
    ·have hcn : ∃ p q, zcK (m ++ [z]) = some (p, q) /\ q ≠ [] := by
      cases hc : zcK m with
      | none => exact absurd (zaH hc) hm
      | some pq =>
       obtain ⟨p, q⟩ := pq
       obtain ⟨y, y1, y2, y3⟩ := km hc
       refine ⟨p, q ++ [z], ?_, by simp⟩
       rw [y2, show p ++ y :: q ++ [z] = p ++ y :: (q ++ [z]) from by simp, zhm y1 y3]
     obtain ⟨p, q, c1, c2⟩ := hcn
     have hn : zt (fW items) orI 0 m = none := by
      cases hs : zt (fW items) orI 0 m with
      | none => rfl
      | some x => exact absurd (zfD hs) hm
     have hmne : decide (m = []) = false := by
      cases m with
      | nil => exact absurd (fun t ht => by cases ht) hm
      | cons b m => simp
     have hw := zc2 items m (by omega) (fun t ht => hk t (List.mem_cons_of_mem _ (List.mem_append_left _ ht)))
     rw [hn] at hw
     obtain ⟨v, hv⟩ := hw
     have ho : ∀ o : Option Int, zhK (o.map fun x => (x, q)) = none := by
      intro o
      cases o with
      | none => rfl
      | some x => cases q with
       | nil => exact absurd rfl c2
       | cons c q => rfl
     rw [c1, hmne, cond_false, hv]
     cases p with
     | nil =>
      cases items with
      | true => exact ⟨_, rfl⟩
      | false =>
       simp only [cond_false]
       rw [show (some ((0 : Int), q)) = (some (0 : Int)).map (fun x => (x, q)) from rfl, ho]
       exact ⟨_, rfl⟩
     | cons t p =>
      simp only
      rw [ho]
      exact ⟨_, rfl⟩
   ·have b2 : (z.1 != (3 : Int)) = true := by simpa using hz
    simp only [b2, cond_true]
    have : zhK (match zcK (m ++ [z]) with
      | none => none
      | some ([], q) => cond items none (some (0, q))
      | some (t :: p, q) => (zt (fW items) orI 0 (t :: p)).map fun x => (x, q)) = none := by
     cases hc : zcK (m ++ [z]) with
     | none => rfl
     | some pq =>
      obtain ⟨p, q⟩ := pq
      obtain ⟨y, y1, y2, y3⟩ := km hc
      cases q with
      | nil =>
       have := (List.append_inj' (show m ++ [z] = p ++ [y] from y2) rfl).2
       cases this
       exact absurd y1 hz
      | cons c q =>
       cases p with
       | nil => cases items <;> rfl
       | cons t p =>
        simp only
        cases zt (fW items) orI 0 (t :: p) <;> rfl
    rw [this]
    exact ⟨_, rfl⟩
  ·have b1 : (a.1 != (2 : Int)) = true := by simpa using ha
   simp only [b1, cond_true, if_neg ha]
   exact ⟨_, rfl⟩
def cA (tag : List UInt8) (k : Int) (m : List UInt8) (f : UInt8) (d : List UInt8) : El uS2 := (tag, (k, (m, ([], (0, (0, (false, (f, d))))))))
def zfY : List Tok -> Option (UInt8 × List UInt8)
 | [] => none
 | [d] => if d.1 = 6 then some (0, d.2.1) else none
 | a :: b :: r => match brS false (a :: b :: r) with
  | some (x, [s, d]) => if s.1 = 1 /\ d.1 = 6 then some (zav x, d.2.1) else none
  | _ => none
theorem zop {α : Type} (l : List α) (h : 2 <= l.length) : ∃ (m : List α) (s d : α), l = m ++ [s, d] := by
 refine ⟨l.take (l.length - 2), l[l.length - 2], l[l.length - 1], ?_⟩
 have h1 : l.drop (l.length - 2) = [l[l.length - 2], l[l.length - 1]] := by
  rw [List.drop_eq_getElem_cons (by omega)]
  congr 1
  rw [List.drop_eq_getElem_cons (by omega)]
  congr 1
  ·congr 1; omega
  ·rw [List.drop_eq_nil_of_le (by omega)]
 rw [<- h1, List.take_append_drop]
theorem zj7 {l : List Tok} {s d : Tok} : zfY (l ++ [s, d]) = match brS false (l ++ [s, d]) with
  | some (x, [s, d]) => if s.1 = 1 /\ d.1 = 6 then some (zav x, d.2.1) else none
  | _ => none := by
 match l with
 | [] => rfl
 | [a] => rfl
 | a :: b :: l => rfl
theorem zhh {l : List Tok} {s d : Tok} (h : ¬ (s.1 = 1 /\ d.1 = 6)) : zfY (l ++ [s, d]) = none := by
 rw [zj7]
 split
 ·rename_i x s' d' hb
  obtain ⟨pre, hp⟩ := zkZ hb
  have := (List.append_inj' hp rfl).2
  cases this
  rw [if_neg h]
 ·rfl
theorem zig {l : List Tok} {s d : Tok} (hs : s.1 = 1) (hd : d.1 = 6) : zfY (l ++ [s, d]) = (zhK (brS false l)).map fun x => (zav x, d.2.1) := by
 rw [zj7, zqB (by omega) (by omega) (by omega)]
 cases hb : brS false l with
 | none => rfl
 | some pq =>
  obtain ⟨x, q⟩ := pq
  cases q with
  | nil =>
   simp only [Option.map_some, List.nil_append, zhK]
   rw [if_pos ⟨hs, hd⟩]
  | cons c q =>
   simp only [Option.map_some, List.cons_append, zhK]
   cases q with
   | nil => rfl
   | cons c2 q => cases q <;> rfl
theorem zqu (tag : List UInt8) (k : Int) (m : List UInt8) (l : List Tok) (hl : l.length <= 2000) (hk : ∀ t ∈ l, qe t) : match zfY l with
  | some (f, d) => qC 3000 (cA tag k m 0 []) l = some (cA tag k m f d, true, ())
  | none => ∃ c, qC 3000 (cA tag k m 0 []) l = some (c, false, ()) := by
 by_cases h2 : 2 <= l.length
 ·obtain ⟨l', s, d, rfl⟩ := zop l h2
  have hlen : (l' ++ [s, d]).length = l'.length + 2 := by simp
  have hl2 : l'.length + 2 <= 2000 := by rw [<- hlen]; exact hl
  have hks := hk s (by simp)
  have hkd := hk d (by simp)
  have e0 : ((((List.length (l' ++ [s, d])) : Nat) : Int) == (0 : Int)) = false := by rw [hlen]; simp; omega
  have e1 : ((((List.length (l' ++ [s, d])) : Nat) : Int) == (1 : Int)) = false := by rw [hlen]; simp; omega
  have e2 : IntKind.wrap .i64 ((((List.length (l' ++ [s, d])) : Nat) : Int) - 1) = ((l'.length + 1 : Nat) : Int) := by rw [hlen, wri (by omega) (by omega)]; omega
  have e3 : IntKind.wrap .i64 ((((List.length (l' ++ [s, d])) : Nat) : Int) - 2) = ((l'.length : Nat) : Int) := by rw [hlen, wri (by omega) (by omega)]; omega
  have e4 : inb ((l'.length + 1 : Nat) : Int) (List.length (l' ++ [s, d])) = true := zX (by rw [hlen]; omega)
  have e5 : inb ((l'.length : Nat) : Int) (List.length (l' ++ [s, d])) = true := zX (by rw [hlen]; omega)
  have e6 : nth uS1 (l' ++ [s, d]) (l'.length + 1) = d := by unfold nth; simp
  have e7 : nth uS1 (l' ++ [s, d]) l'.length = s := by unfold nth; simp
  have e8 := qY (a := 0) (b := l'.length) (n := (l' ++ [s, d]).length) (by omega) (by rw [hlen]; omega)
  rw [show ((0 : Nat) : Int) = (0 : Int) from rfl] at e8
  have e9 : slice (l' ++ [s, d]) 0 l'.length = l' := by rw [j7]; simp
  have eb := zbR (n := d.2.1.length) (by have := hkd.2.1; omega)
  have hw := zhB false l' (by omega) (fun t ht => hk t (List.mem_append_left _ ht))
  unfold qC
  simp only [e0, cond_false, e2, e4, cond_true, Int.toNat_natCast, e6, eb, e1, e3, e8, Bool.and_true, e9]
  by_cases hd : d.1 = 6
  ·have d6 : (d.1 != (6 : Int)) = false := by simpa using hd
   simp only [d6, cond_false]
   cases ho : zhK (brS false l') with
   | none =>
    rw [ho] at hw
    obtain ⟨v, hv⟩ := hw
    have : zfY (l' ++ [s, d]) = none := by
     by_cases hs : s.1 = 1
     ·rw [zig hs hd, ho]; rfl
     ·exact zhh (fun h => hs h.1)
    rw [this, hv]
    exact ⟨_, rfl⟩
   | some x =>
    rw [ho] at hw
    simp only [WR] at hw
    rw [hw]
    simp only [Option.bind_some, cond_true, e5, e7]
    by_cases hs : s.1 = 1
    ·have s1 : (s.1 == (1 : Int)) = true := by rw [beq_iff_eq]; exact hs
     rw [zig hs hd, ho, s1]
     rfl
    ·have s1 : (s.1 == (1 : Int)) = false := by simpa using hs
     rw [zhh (fun h => hs h.1), s1]
     exact ⟨_, rfl⟩
  ·have d6 : (d.1 != (6 : Int)) = true := by simpa using hd
   rw [zhh (fun h => hd h.2)]
   simp only [d6, cond_true]
   exact ⟨_, rfl⟩
 ·match l, h2 with
  | [], _ => exact ⟨_, rfl⟩
  | [d], _ =>
   have hkd := hk d (by simp)
   have eb := zbR (n := d.2.1.length) (by have := hkd.2.1; omega)
   have e0 : ((((List.length [d]) : Nat) : Int) == (0 : Int)) = false := rfl
   have e1 : ((((List.length [d]) : Nat) : Int) == (1 : Int)) = true := rfl
   have e2 : IntKind.wrap .i64 ((((List.length [d]) : Nat) : Int) - 1) = 0 := rfl
   unfold qC zfY
   simp only [e0, cond_false, e2, qA, cond_true, show Int.toNat 0 = 0 from rfl, qy, eb, e1]
   by_cases hd : d.1 = 6
   ·have d6 : (d.1 != (6 : Int)) = false := by simpa using hd
    simp only [d6, cond_false, if_pos hd]
    rfl
   ·have d6 : (d.1 != (6 : Int)) = true := by simpa using hd
    simp only [d6, cond_true, if_neg hd]
    exact ⟨_, rfl⟩
  | a :: b :: l, h => exact absurd (by simp) h
def wF : List UInt8 := [70, 76, 65, 71, 83]
def wP : List UInt8 := [43, 70, 76, 65, 71, 83]
def wM : List UInt8 := [45, 70, 76, 65, 71, 83]
def wS : List UInt8 := [46, 83, 73, 76, 69, 78, 84]
def mW (w : List UInt8) (b : Bool) : Option (Int × Bool) := cond (w == wF) (some (0, b)) (cond (w == wP) (some (1, b)) (cond (w == wM) (some (2, b)) none))
def zi6 (u : List UInt8) : Option (Int × Bool) := if 7 <= u.length /\ u.drop (u.length - 7) = wS then mW (u.take (u.length - 7)) true else mW u false
def zhb (s : List UInt8) : Option (Int × Bool) := zi6 (s.map up)
def zk3 (o : Option (Int × Bool)) : Option (Int × Bool × Unit) := some (match o with
 | some (m, b) => (m, b, ())
 | none => (-1, false, ()))
theorem zqn (w : List UInt8) (b : Bool) : (cond (w == ([70, 76, 65, 71, 83] : List UInt8)) (some ((0 : Int), b, ())) (cond (w == ([43, 70, 76, 65, 71, 83] : List UInt8)) (some ((1 : Int), b, ())) (cond (w == ([45, 70, 76, 65, 71, 83] : List UInt8)) (some ((2 : Int), b, ())) (some ((-1 : Int), false, ()))))) = zk3 (mW w b) := by
 unfold mW wF wP wM
 cases w == ([70, 76, 65, 71, 83] : List UInt8) <;> cases w == ([43, 70, 76, 65, 71, 83] : List UInt8) <;> cases w == ([45, 70, 76, 65, 71, 83] : List UInt8) <;> rfl
theorem zoK (s : List UInt8) (hs : s.length <= 2000) : xP 3000 s = zk3 (zhb s) := by
 unfold xP zhb
 rw [za0 s hs]
 have hl : (s.map up).length <= 2000 := by rw [List.length_map]; exact hs
 generalize s.map up = u at hl |-
 simp only [Option.bind_some]
 simp only [zqn]
 unfold zi6
 by_cases h7 : 7 < u.length
 ·have e1 : decide ((7 : Int) < (((List.length u) : Nat) : Int)) = true := by simp; omega
  have e2 : IntKind.wrap .i64 ((((List.length u) : Nat) : Int) - 7) = ((u.length - 7 : Nat) : Int) := by rw [wri (by omega) (by omega)]; omega
  have e3 := qY (a := u.length - 7) (b := u.length) (n := u.length) (by omega) (by omega)
  have e4 := qY (a := 0) (b := u.length - 7) (n := u.length) (by omega) (by omega)
  rw [show ((0 : Nat) : Int) = (0 : Int) from rfl] at e4
  simp only [e1, cond_true, e2, e3, e4, Int.toNat_natCast, xg, j7]
  by_cases hw : u.drop (u.length - 7) = wS
  ·have e5 : (u.drop (u.length - 7) == ([46, 83, 73, 76, 69, 78, 84] : List UInt8)) = true := by rw [beq_iff_eq]; exact hw
   rw [e5, cond_true, if_pos ⟨by omega, hw⟩]
  ·have e5 : (u.drop (u.length - 7) == ([46, 83, 73, 76, 69, 78, 84] : List UInt8)) = false := by
    cases e : u.drop (u.length - 7) == ([46, 83, 73, 76, 69, 78, 84] : List UInt8) with
    | false => rfl
    | true => rw [beq_iff_eq] at e; exact absurd e hw
   rw [e5, cond_false, if_neg (fun h => hw h.2)]
 ·have e1 : decide ((7 : Int) < (((List.length u) : Nat) : Int)) = false := by simp; omega
  simp only [e1, cond_false]
  by_cases h : 7 <= u.length /\ u.drop (u.length - 7) = wS
  ·rw [if_pos h]
   have e : u.length - 7 = 0 := by omega
   have hu : u = wS := by have := h.2; rw [e] at this; exact this
   rw [hu]; rfl
  ·rw [if_neg h]
theorem zqe (u : List UInt8) : zi 3000 3000 [([70, 76, 65, 71, 83] : List UInt8), ([43, 70, 76, 65, 71, 83] : List UInt8), ([45, 70, 76, 65, 71, 83] : List UInt8)] u 3 0 = (cond (u == ([70, 76, 65, 71, 83] : List UInt8)) (some (.inl 0)) (cond (u == ([43, 70, 76, 65, 71, 83] : List UInt8)) (some (.inl 1)) (cond (u == ([45, 70, 76, 65, 71, 83] : List UInt8)) (some (.inl 2)) (some (.inr ()))))) := by kernel_rfl
theorem zqI (w : List UInt8) (b : Bool) : ∃ i : Int, zp 3000 [([70, 76, 65, 71, 83] : List UInt8), ([43, 70, 76, 65, 71, 83] : List UInt8), ([45, 70, 76, 65, 71, 83] : List UInt8)] w = some (i, ()) /\ (match mW w b with
  | some (m, b') => i = m /\ b' = b /\ 0 <= i
  | none => i = -1) := by
 unfold zp
 rw [show zi 3000 3000 [([70, 76, 65, 71, 83] : List UInt8), ([43, 70, 76, 65, 71, 83] : List UInt8), ([45, 70, 76, 65, 71, 83] : List UInt8)] w (((List.length ([([70, 76, 65, 71, 83] : List UInt8), ([43, 70, 76, 65, 71, 83] : List UInt8), ([45, 70, 76, 65, 71, 83] : List UInt8)] : List (List UInt8))) : Nat) : Int) 0 = _ from zqe w]
 unfold mW wF wP wM
 cases w == ([70, 76, 65, 71, 83] : List UInt8) with
 | true => exact ⟨0, rfl, rfl, rfl, by omega⟩
 | false =>
  cases w == ([43, 70, 76, 65, 71, 83] : List UInt8) with
  | true => exact ⟨1, rfl, rfl, rfl, by omega⟩
  | false =>
   cases w == ([45, 70, 76, 65, 71, 83] : List UInt8) with
   | true => exact ⟨2, rfl, rfl, rfl, by omega⟩
   | false => exact ⟨-1, rfl, rfl⟩
theorem zin (u : List UInt8) (hl : u.length <= 2000) : ∃ (w : List UInt8) (b : Bool) (i : Int), zQ 3000 u ([46, 83, 73, 76, 69, 78, 84] : List UInt8) = some (w, b, ()) /\ zp 3000 [([70, 76, 65, 71, 83] : List UInt8), ([43, 70, 76, 65, 71, 83] : List UInt8), ([45, 70, 76, 65, 71, 83] : List UInt8)] w = some (i, ()) /\ (match zi6 u with
  | some (m, b') => i = m /\ b' = b /\ 0 <= i
  | none => i = -1) := by
 unfold zQ qh qf zi6
 by_cases h7 : 7 <= u.length
 ·have e1 : decide ((((List.length ([46, 83, 73, 76, 69, 78, 84] : List UInt8)) : Nat) : Int) <= (((List.length u) : Nat) : Int)) = true := by simp; omega
  have e2 : IntKind.wrap .i64 ((((List.length u) : Nat) : Int) - (((List.length ([46, 83, 73, 76, 69, 78, 84] : List UInt8)) : Nat) : Int)) = ((u.length - 7 : Nat) : Int) := by
   rw [show (((List.length ([46, 83, 73, 76, 69, 78, 84] : List UInt8)) : Nat) : Int) = 7 from rfl, wri (by omega) (by omega)]; omega
  have e3 := qY (a := u.length - 7) (b := u.length) (n := u.length) (by omega) (by omega)
  have e4 := qY (a := 0) (b := u.length - 7) (n := u.length) (by omega) (by omega)
  rw [show ((0 : Nat) : Int) = (0 : Int) from rfl] at e4
  simp only [e1, cond_true, e2, e3, e4, Int.toNat_natCast, xg, j7, Option.bind_some]
  by_cases hw : u.drop (u.length - 7) = wS
  ·have e5 : (u.drop (u.length - 7) == ([46, 83, 73, 76, 69, 78, 84] : List UInt8)) = true := by rw [beq_iff_eq]; exact hw
   rw [e5, if_pos ⟨h7, hw⟩]
   simp only [Bool.not_true, cond_false, Option.bind_some]
   obtain ⟨i, h1, h2⟩ := zqI (u.take (u.length - 7)) true
   exact ⟨_, _, i, rfl, h1, h2⟩
  ·have e5 : (u.drop (u.length - 7) == ([46, 83, 73, 76, 69, 78, 84] : List UInt8)) = false := by
    cases e : u.drop (u.length - 7) == ([46, 83, 73, 76, 69, 78, 84] : List UInt8) with
    | false => rfl
    | true => rw [beq_iff_eq] at e; exact absurd e hw
   rw [e5, if_neg (fun h => hw h.2)]
   simp only [Bool.not_false, cond_true, Option.bind_some]
   obtain ⟨i, h1, h2⟩ := zqI u false
   exact ⟨_, _, i, rfl, h1, h2⟩
 ·have e1 : decide ((((List.length ([46, 83, 73, 76, 69, 78, 84] : List UInt8)) : Nat) : Int) <= (((List.length u) : Nat) : Int)) = false := by simp; omega
  rw [if_neg (fun h => h7 h.1)]
  simp only [e1, cond_false, Option.bind_some, Bool.not_false, cond_true]
  obtain ⟨i, h1, h2⟩ := zqI u false
  exact ⟨_, _, i, rfl, h1, h2⟩

def zhH (tag : List UInt8) : El uS2 := (tag, (0, ([], ([], (0, (0, (false, (0, []))))))))
def zkb (tag : List UInt8) (o : Option (El uS2)) : Option ((El uS2) × Bool × Unit) := some (match o with
 | some c => (c, true, ())
 | none => (zhH tag, false, ()))
def cI (tag : List UInt8) (k : Int) (st : List (Int × Int)) (x : Int) : El uS2 := (tag, (k, ([], (st, (x, (0, (false, (0, []))))))))
def cS (tag : List UInt8) (k : Int) (st : List (Int × Int)) (m : Int) (b : Bool) (f : UInt8) : El uS2 := (tag, (k, ([], (st, (0, (m, (b, (f, []))))))))
def tk {A : Type} (k : Int) (l : List Tok) (f : Tok -> List Tok -> Option A) : Option A := match l with
 | [] => none
 | t :: r => if t.1 = k then f t r else none
def tkM {A : Type} (l : List Tok) (f : Tok -> List Tok -> Option A) : Option A := match l with
 | [] => none
 | t :: r => if zgl t = true then f t r else none
def tkE {A : Type} (l : List Tok) (x : A) : Option A := match l with
 | [] => some x
 | _ :: _ => none
theorem eqT {a b : Int} (h : a = b) : (a == b) = true := by rw [beq_iff_eq]; exact h
theorem eqF {a b : Int} (h : ¬ a = b) : (a == b) = false := by simpa using h
theorem neT {a b : Int} (h : ¬ a = b) : (a != b) = true := by simpa using h
theorem neF {a b : Int} (h : a = b) : (a != b) = false := by simpa using h
theorem zpR (tag : List UInt8) (kd : Int) (e : Tok) (he : e.1 = 0) (r : List Tok) (hk : ∀ t ∈ r, qe t) : B1 3000 tag kd (r ++ [e]) = zkb tag (tkE r (cA tag kd [] 0 [])) := by
 cases r with
 | nil =>
  simp only [List.nil_append]
  unfold B1
  simp only [qA, cond_true, cond_false, zI, qy, Option.bind_some, zn, Bool.and_true, Bool.not_true, eqT he]
  rfl
 | cons t r =>
  have h0 : ¬ t.1 = 0 := by have := (hk t (List.mem_cons_self ..)).1; omega
  simp only [List.cons_append]
  unfold B1
  simp only [qA, cond_true, zI, qy, Option.bind_some, zn, Bool.and_true, Bool.not_false, eqF h0]
  rfl
theorem zqg (tag : List UInt8) (kd : Int) (mb : List UInt8) (e : Tok) (he : e.1 = 0) (r : List Tok) (hk : ∀ t ∈ r, qe t) : E5 3000 tag kd mb (r ++ [e]) = zkb tag (tkE r (cA tag kd mb 0 [])) := by
 cases r with
 | nil =>
  simp only [List.nil_append]
  unfold E5
  simp only [qA, cond_true, cond_false, zI, qy, Option.bind_some, zn, Bool.and_true, Bool.not_true, eqT he]
  rfl
 | cons t r =>
  have h0 : ¬ t.1 = 0 := by have := (hk t (List.mem_cons_self ..)).1; omega
  simp only [List.cons_append]
  unfold E5
  simp only [qA, cond_true, zI, qy, Option.bind_some, zn, Bool.and_true, Bool.not_false, eqF h0]
  rfl
def znn (tag : List UInt8) (kd : Int) (mb : List UInt8) (f : UInt8) (q : List Tok) : Option (El uS2) := match q with
 | [s, d] => if s.1 = 1 /\ d.1 = 6 then some (cA tag kd mb f d.2.1) else none
 | _ => none
theorem zmo (tag : List UInt8) (kd : Int) (mb : List UInt8) (f : UInt8) (e : Tok) (he : e.1 = 0) (z : Tok) (hz : z.1 = 3) (q : List Tok) (hk : ∀ t ∈ q, qe t) : G6 3000 tag tag kd mb f (z :: (q ++ [e])) = zkb tag (znn tag kd mb f q) := by
 have f1 : ¬ e.1 = 1 := by omega
 have f6 : ¬ e.1 = 6 := by omega
 unfold G6
 simp only [qA, cond_true, cond_false, zI, qy, Option.bind_some, zr, zn, Bool.and_true, Bool.not_true, eqT hz]
 match q, hk with
 | [], _ => simp only [qA, cond_true, qy, zr, zn, Bool.not_false, List.nil_append, eqF f1]; rfl
 | [s], _ =>
  by_cases h1 : s.1 = 1
  ·simp only [qA, cond_true, cond_false, qy, zr, zn, Bool.not_true, Bool.not_false, List.cons_append, List.nil_append, eqT h1, eqF f6]; rfl
  ·simp only [qA, cond_true, qy, zr, zn, Bool.not_false, List.cons_append, List.nil_append, eqF h1]; rfl
 | [s, d], hk =>
  have eb := zbR (n := d.2.1.length) (by have := (hk d (by simp)).2.1; omega)
  by_cases h1 : s.1 = 1
  ·by_cases h6 : d.1 = 6
   ·simp only [qA, cond_true, cond_false, qy, zr, zn, Bool.not_true, List.cons_append, List.nil_append, eqT h1, eqT h6, eqT he, eb, znn, if_pos (And.intro h1 h6)]; rfl
   ·simp only [qA, cond_true, cond_false, qy, zr, zn, Bool.not_true, Bool.not_false, List.cons_append, List.nil_append, eqT h1, eqF h6, znn, if_neg (fun h : s.1 = 1 /\ d.1 = 6 => h6 h.2)]; rfl
  ·simp only [qA, cond_true, qy, zr, zn, Bool.not_false, List.cons_append, List.nil_append, eqF h1, znn, if_neg (fun h : s.1 = 1 /\ d.1 = 6 => h1 h.1)]; rfl
 | s :: d :: t :: q, hk =>
  have eb := zbR (n := d.2.1.length) (by have := (hk d (by simp)).2.1; omega)
  have h0 : ¬ t.1 = 0 := by have := (hk t (by simp)).1; omega
  by_cases h1 : s.1 = 1
  ·by_cases h6 : d.1 = 6
   ·simp only [qA, cond_true, cond_false, qy, zr, zn, Bool.not_true, Bool.not_false, List.cons_append, eqT h1, eqT h6, eqF h0, eb, znn]; rfl
   ·simp only [qA, cond_true, cond_false, qy, zr, zn, Bool.not_true, Bool.not_false, List.cons_append, eqT h1, eqF h6, znn]; rfl
  ·simp only [qA, cond_true, qy, zr, zn, Bool.not_false, List.cons_append, eqF h1, znn]; rfl
theorem zkq (tag : List UInt8) (kd : Int) (mb : List UInt8) (x : Int) (q : List Tok) : ((match some (x, q) with
  | some (x, [s, d]) => if s.1 = 1 /\ d.1 = 6 then some (zav x, d.2.1) else none
  | _ => none : Option (UInt8 × List UInt8)).map fun p => cA tag kd mb p.1 p.2) = znn tag kd mb (zav x) q := by
 match q with
 | [] => rfl
 | [s] => rfl
 | [s, d] =>
  unfold znn
  by_cases h : s.1 = 1 /\ d.1 = 6
  ·simp only [if_pos h, Option.map_some]
  ·simp only [if_neg h, Option.map_none]
 | s :: d :: t :: q => rfl
theorem zoz (tag : List UInt8) (kd : Int) (mb : List UInt8) (a : Tok) (h2 : a.1 = 2) (r : List Tok) : ((zfY (a :: r)).map fun p => cA tag kd mb p.1 p.2) = match zcK r with
  | none => none
  | some ([], q) => znn tag kd mb 0 q
  | some (t :: p, q) => (zt (fW false) orI 0 (t :: p)).bind fun x => znn tag kd mb (zav x) q := by
 cases r with
 | nil =>
  have h6 : ¬ a.1 = 6 := by omega
  simp only [zfY, if_neg h6, zcK, Option.map_none]
 | cons b r =>
  unfold zfY brS
  simp only [if_pos h2]
  cases hc : zcK (b :: r) with
  | none => rfl
  | some pq =>
   obtain ⟨p, q⟩ := pq
   cases p with
   | nil => simp only [cond_false]; exact zkq tag kd mb 0 q
   | cons t p =>
    simp only
    cases zt (fW false) orI 0 (t :: p) with
    | none => rfl
    | some x => simp only [Option.map_some, Option.bind_some]; exact zkq tag kd mb x q
theorem zky (r : List Tok) (e : Tok) : ∃ t r', r ++ [e] = t :: r' /\ (t = e \/ t ∈ r) := by
 cases r with
 | nil => exact ⟨e, [], rfl, .inl rfl⟩
 | cons t r => exact ⟨t, r ++ [e], rfl, .inr (List.mem_cons_self ..)⟩
theorem zp6 (tag : List UInt8) (kd : Int) (mb : List UInt8) (e : Tok) (he : e.1 = 0) (r : List Tok) (hl : r.length <= 2000) (hk : ∀ t ∈ r, qe t) : D6 3000 tag kd mb (r ++ [e]) = zkb tag ((zfY r).map fun p => cA tag kd mb p.1 p.2) := by
 have f2 : ¬ e.1 = 2 := by omega
 have f6 : ¬ e.1 = 6 := by omega
 have f3 : ¬ e.1 = 3 := by omega
 cases r with
 | nil =>
  simp only [List.nil_append]
  unfold D6
  simp only [qA, cond_true, cond_false, zI, qy, Option.bind_some, zr, zn, Bool.and_true, Bool.not_false, eqF f2, eqF f6]
  rfl
 | cons a r =>
  have hkr : ∀ t ∈ r, qe t := fun t ht => hk t (List.mem_cons_of_mem _ ht)
  by_cases h2 : a.1 = 2
  ·rw [zoz tag kd mb a h2 r]
   cases hc : zcK r with
   | none =>
    have hn := zaH hc
    have hl46 := zhG tag kd mb e [] (.inl he) r 0 3000 (fun t ht => ⟨hkr t ht, hn t ht⟩) (by simp only [List.length_cons] at hl; omega)
    have : ∃ y, zA 3000 3000 (r ++ [e]) tag kd mb 0 = some (.inl y) := by
     cases hw : zt fP orP 0 r with
     | none => rw [hw] at hl46; exact hl46
     | some x => rw [hw] at hl46; exact hl46.2 f3
    obtain ⟨y, hy⟩ := this
    obtain ⟨t, r', hr, ht⟩ := zky r e
    have ht3 : ¬ t.1 = 3 := by
     rcases ht with rfl | ht
     ·exact f3
     ·exact hn t ht
    simp only [List.cons_append]
    rw [hr] at hy |-
    unfold D6
    simp only [qA, cond_true, cond_false, zI, qy, Option.bind_some, zr, zn, Bool.and_true, Bool.not_true, eqT h2, neT ht3, hy, zl]
    rfl
   | some pq =>
    obtain ⟨p, q⟩ := pq
    obtain ⟨z, z1, z2, z3⟩ := km hc
    subst z2
    have hkq : ∀ t ∈ q, qe t := fun t ht => hkr t (List.mem_append_right _ (List.mem_cons_of_mem _ ht))
    rw [show (a :: (p ++ z :: q)) ++ [e] = a :: (p ++ z :: (q ++ [e])) from by simp]
    cases p with
    | nil =>
     unfold D6
     simp only [qA, cond_true, cond_false, zI, qy, Option.bind_some, zr, zn, Bool.and_true, Bool.not_true, List.nil_append, eqT h2, neF z1, zmo tag kd mb _ e he z z1 q hkq]
    | cons t p =>
     have hl46 := zhG tag kd mb z (q ++ [e]) (.inr z1) (t :: p) 0 3000 (fun u hu => ⟨hkr u (List.mem_append_left _ hu), z3 u hu⟩) (by simp only [List.length_cons, List.length_append] at hl |-; omega)
     obtain ⟨o, o1, o2, o3⟩ := zkF (t :: p) 0 (by omega)
     rw [show UInt8.ofNat 0 = (0 : UInt8) from rfl] at o3
     rw [show ((0 : Nat) : Int) = (0 : Int) from rfl] at o2
     have ht3 := z3 t (List.mem_cons_self ..)
     unfold D6
     cases o with
     | none =>
      rw [o3] at hl46
      simp only [Option.map_none, List.cons_append] at hl46
      obtain ⟨y, hy⟩ := hl46
      simp only [qA, cond_true, cond_false, zI, qy, Option.bind_some, zr, zn, Bool.and_true, Bool.not_true, List.cons_append, eqT h2, neT ht3, hy, zl, o2, Option.map_none, Option.bind_none]
      rfl
     | some n =>
      rw [o3] at hl46
      simp only [Option.map_some, List.cons_append] at hl46
      have hy := hl46.1 z1
      have hn := o1 n rfl
      simp only [qA, cond_true, cond_false, zI, qy, Option.bind_some, zr, zn, Bool.and_true, Bool.not_true, List.cons_append, eqT h2, neT ht3, hy, zl, o2, Option.map_some, zmo tag kd mb _ e he z z1 q hkq, jS (show n < 256 by omega)]
  ·simp only [List.cons_append]
   unfold D6
   by_cases h6 : a.1 = 6
   ·have eb := zbR (n := a.2.1.length) (by have := (hk a (by simp)).2.1; omega)
    cases r with
    | nil =>
     simp only [qA, cond_true, cond_false, zI, qy, Option.bind_some, zr, zn, Bool.and_true, Bool.not_true, Bool.not_false, List.nil_append, eqF h2, eqT h6, eb, eqT he, zfY, if_pos h6]
     rfl
    | cons b r =>
     have h0 : ¬ b.1 = 0 := by have := (hkr b (by simp)).1; omega
     simp only [qA, cond_true, cond_false, zI, qy, Option.bind_some, zr, zn, Bool.and_true, Bool.not_true, Bool.not_false, List.cons_append, eqF h2, eqT h6, eb, eqF h0, zfY, brS, if_neg h2]
     rfl
   ·have hs : zfY (a :: r) = none := by
     cases r with
     | nil => simp only [zfY, if_neg h6]
     | cons b r => simp only [zfY, brS, if_neg h2]
    simp only [qA, cond_true, cond_false, zI, qy, Option.bind_some, zr, zn, Bool.and_true, Bool.not_false, eqF h2, eqF h6, hs]
    rfl
theorem zqy (tag : List UInt8) (kd : Int) (mb : List UInt8) (e : Tok) (he : e.1 = 0) (r : List Tok) (hl : r.length <= 2000) (hk : ∀ t ∈ r, qe t) : C6 3000 tag kd mb (r ++ [e]) = zkb tag (tk 1 r fun _ r => (zfY r).map fun p => cA tag kd mb p.1 p.2) := by
 have f1 : ¬ e.1 = 1 := by omega
 cases r with
 | nil =>
  simp only [List.nil_append]
  unfold C6
  simp only [qA, cond_true, zI, qy, Option.bind_some, zr, zn, Bool.and_true, Bool.not_false, eqF f1]
  rfl
 | cons s r =>
  simp only [List.cons_append]
  unfold C6
  by_cases h1 : s.1 = 1
  ·simp only [qA, cond_true, cond_false, zI, qy, Option.bind_some, zr, zn, Bool.and_true, Bool.not_true, eqT h1, tk, if_pos h1]
   exact zp6 tag kd mb e he r (by simp only [List.length_cons] at hl; omega) (fun t ht => hk t (List.mem_cons_of_mem _ ht))
  ·simp only [qA, cond_true, zI, qy, Option.bind_some, zr, zn, Bool.and_true, Bool.not_false, eqF h1, tk, if_neg h1]
   rfl
theorem zp7 (tag : List UInt8) (kd : Int) (e : Tok) (he : e.1 = 0) (r : List Tok) (hl : r.length <= 2000) (hk : ∀ t ∈ r, qe t) : B5 3000 tag kd (r ++ [e]) = zkb tag (tk 1 r fun _ r => tkM r fun m r => tkE r (cA tag kd m.2.1 0 [])) := by
 have f1 : ¬ e.1 = 1 := by omega
 have f4 : ¬ e.1 = 4 := by omega
 have f5 : ¬ e.1 = 5 := by omega
 have f6 : ¬ e.1 = 6 := by omega
 cases r with
 | nil =>
  simp only [List.nil_append]
  unfold B5
  simp only [qA, cond_true, zI, zf3, qy, Option.bind_some, zr, zn, Bool.and_true, Bool.not_false, eqF f1]
  rfl
 | cons s r =>
  simp only [List.cons_append]
  unfold B5
  by_cases h1 : s.1 = 1
  ·cases r with
   | nil =>
    simp only [qA, cond_true, cond_false, zI, zf3, qy, Option.bind_some, zr, zn, Bool.and_true, Bool.not_true, Bool.not_false, Bool.or_false, List.nil_append, eqT h1, eqF f4, eqF f5, eqF f6, tk, if_pos h1]
    rfl
   | cons m r =>
    have hkm := hk m (by simp)
    have hkr : ∀ t ∈ r, qe t := fun t ht => hk t (List.mem_cons_of_mem _ (List.mem_cons_of_mem _ ht))
    have hlr : r.length <= 2000 := by simp only [List.length_cons] at hl; omega
    have hC := fun mb => zqg tag kd mb e he r  hkr
    by_cases h4 : m.1 = 4
    ·have hne : (m.2.1 != ([] : List UInt8)) = true := by simpa using (hkm.2.2 h4).1
     have hb := zpa 3000 m.2.1 (by have := hkm.2.1; omega) 3000 0 (by omega) (by have := hkm.2.1; omega)
     rw [show ((0 : Nat) : Int) = (0 : Int) from rfl, List.drop_zero] at hb
     have hS : zgl m = m.2.1.all zdA := by unfold zgl; rw [if_pos h4]
     simp only [qA, cond_true, cond_false, zI, zf3, qy, Option.bind_some, zr, zn, Bool.and_true, Bool.not_true, Bool.true_or, List.cons_append, eqT h1, eqT h4, neF h4, hne, hb, tk, if_pos h1, tkM, hS]
     cases m.2.1.all zdA with
     | true => simp only [if_true, zl, hC]
     | false =>
      simp only [Bool.false_eq_true, if_false, zl]
      rfl
    ·have hS : zgl m = (m.1 == 5 || m.1 == 6) := by unfold zgl; rw [if_neg h4]
     simp only [qA, cond_true, cond_false, zI, zf3, qy, Option.bind_some, zr, zn, Bool.and_true, Bool.not_true, Bool.false_or, List.cons_append, eqT h1, eqF h4, neT h4, tk, if_pos h1, tkM, hS]
     cases (m.1 == (5 : Int) || m.1 == (6 : Int)) with
     | true => simp only [cond_false, Bool.not_true, if_true, hC]
     | false =>
      simp only [cond_true, Bool.not_false, Bool.false_eq_true, if_false]
      rfl
  ·simp only [qA, cond_true, zI, zf3, qy, Option.bind_some, zr, zn, Bool.and_true, Bool.not_false, eqF h1, tk, if_neg h1]
   rfl
theorem zqj (tag : List UInt8) (kd : Int) (e : Tok) (he : e.1 = 0) (r : List Tok) (hl : r.length <= 2000) (hk : ∀ t ∈ r, qe t) : B6 3000 tag kd (r ++ [e]) = zkb tag (tk 1 r fun _ r => tkM r fun m r => tk 1 r fun _ r => (zfY r).map fun p => cA tag kd m.2.1 p.1 p.2) := by
 have f1 : ¬ e.1 = 1 := by omega
 have f4 : ¬ e.1 = 4 := by omega
 have f5 : ¬ e.1 = 5 := by omega
 have f6 : ¬ e.1 = 6 := by omega
 cases r with
 | nil =>
  simp only [List.nil_append]
  unfold B6
  simp only [qA, cond_true, zI, zf3, qy, Option.bind_some, zr, zn, Bool.and_true, Bool.not_false, eqF f1]
  rfl
 | cons s r =>
  simp only [List.cons_append]
  unfold B6
  by_cases h1 : s.1 = 1
  ·cases r with
   | nil =>
    simp only [qA, cond_true, cond_false, zI, zf3, qy, Option.bind_some, zr, zn, Bool.and_true, Bool.not_true, Bool.not_false, Bool.or_false, List.nil_append, eqT h1, eqF f4, eqF f5, eqF f6, tk, if_pos h1]
    rfl
   | cons m r =>
    have hkm := hk m (by simp)
    have hkr : ∀ t ∈ r, qe t := fun t ht => hk t (List.mem_cons_of_mem _ (List.mem_cons_of_mem _ ht))
    have hlr : r.length <= 2000 := by simp only [List.length_cons] at hl; omega
    have hC := fun mb => zqy tag kd mb e he r hlr hkr
    by_cases h4 : m.1 = 4
    ·have hne : (m.2.1 != ([] : List UInt8)) = true := by simpa using (hkm.2.2 h4).1
     have hb := zpg 3000 m.2.1 (by have := hkm.2.1; omega) 3000 0 (by omega) (by have := hkm.2.1; omega)
     rw [show ((0 : Nat) : Int) = (0 : Int) from rfl, List.drop_zero] at hb
     have hS : zgl m = m.2.1.all zdA := by unfold zgl; rw [if_pos h4]
     simp only [qA, cond_true, cond_false, zI, zf3, qy, Option.bind_some, zr, zn, Bool.and_true, Bool.not_true, Bool.true_or, List.cons_append, eqT h1, eqT h4, neF h4, hne, hb, tk, if_pos h1, tkM, hS]
     cases m.2.1.all zdA with
     | true => simp only [if_true, zl, hC]; rfl
     | false =>
      simp only [Bool.false_eq_true, if_false, zl]
      rfl
    ·have hS : zgl m = (m.1 == 5 || m.1 == 6) := by unfold zgl; rw [if_neg h4]
     simp only [qA, cond_true, cond_false, zI, zf3, qy, Option.bind_some, zr, zn, Bool.and_true, Bool.not_true, Bool.false_or, List.cons_append, eqT h1, eqF h4, neT h4, tk, if_pos h1, tkM, hS]
     cases (m.1 == (5 : Int) || m.1 == (6 : Int)) with
     | true => simp only [cond_false, Bool.not_true, if_true, hC]; rfl
     | false =>
      simp only [cond_true, Bool.not_false, Bool.false_eq_true, if_false]
      rfl
  ·simp only [qA, cond_true, zI, zf3, qy, Option.bind_some, zr, zn, Bool.and_true, Bool.not_false, eqF h1, tk, if_neg h1]
   rfl
def itS : List Tok -> Option Int
 | [] => none
 | [w] => if w.1 = 4 then (fW true w.2.1).map (orI 0) else none
 | a :: b :: r => zhK (brS true (a :: b :: r))
theorem zok (x : Int) (q : List Tok) : zhK (some (x, q)) = tkE q x := by cases q <;> rfl
theorem zp9 (a : Tok) (h2 : a.1 = 2) (r : List Tok) : itS (a :: r) = match zcK r with
  | none => none
  | some (p, q) => (zt (fW true) orI 0 p).bind fun x => tkE q x := by
 cases r with
 | nil =>
  have h4 : ¬ a.1 = 4 := by omega
  simp only [itS, if_neg h4, zcK]
 | cons b r =>
  unfold itS brS
  simp only [if_pos h2]
  cases hc : zcK (b :: r) with
  | none => rfl
  | some pq =>
   obtain ⟨p, q⟩ := pq
   cases p with
   | nil => rfl
   | cons t p =>
    simp only
    cases zt (fW true) orI 0 (t :: p) with
    | none => rfl
    | some x => simp only [Option.map_some, Option.bind_some, zok]
theorem zpK (tag : List UInt8) (kd : Int) (st : List (Int × Int)) (e : Tok) (he : e.1 = 0) (r : List Tok) (hl : r.length <= 2000) (hk : ∀ t ∈ r, qe t) : D7 3000 tag kd st (r ++ [e]) = zkb tag ((itS r).map fun x => cI tag kd st x) := by
 have f2 : ¬ e.1 = 2 := by omega
 have f4 : ¬ e.1 = 4 := by omega
 have f3 : ¬ e.1 = 3 := by omega
 cases r with
 | nil =>
  simp only [List.nil_append]
  unfold D7
  simp only [qA, cond_true, zI, qy, Option.bind_some, zr, zn, Bool.and_true, Bool.not_false, neT f2, eqF f4]
  rfl
 | cons a r =>
  have hkr : ∀ t ∈ r, qe t := fun t ht => hk t (List.mem_cons_of_mem _ ht)
  by_cases h2 : a.1 = 2
  ·rw [zp9 a h2 r]
   cases hc : zcK r with
   | none =>
    have hn := zaH hc
    have hl144 := zfH tag kd st 0 e [] (.inl he) r 0 3000 (fun t ht => ⟨hkr t ht, hn t ht⟩) (by simp only [List.length_cons] at hl; omega)
    have : ∃ y, zz 3000 3000 (r ++ [e]) tag kd st 0 0 = some (.inl y) := by
     cases hw : zt (fW true) orI 0 r with
     | none => rw [hw] at hl144; exact hl144
     | some x => rw [hw] at hl144; exact hl144.2 f3
    obtain ⟨y, hy⟩ := this
    simp only [List.cons_append]
    unfold D7
    simp only [qA, cond_true, cond_false, zI, qy, Option.bind_some, zr, zn, Bool.and_true, Bool.not_true, neF h2, eqT h2, hy, zl]
    rfl
   | some pq =>
    obtain ⟨p, q⟩ := pq
    obtain ⟨z, z1, z2, z3⟩ := km hc
    subst z2
    have hkq : ∀ t ∈ q, qe t := fun t ht => hkr t (List.mem_append_right _ (List.mem_cons_of_mem _ ht))
    rw [show (a :: (p ++ z :: q)) ++ [e] = a :: (p ++ z :: (q ++ [e])) from by simp]
    have hl144 := zfH tag kd st 0 z (q ++ [e]) (.inr z1) p 0 3000 (fun u hu => ⟨hkr u (List.mem_append_left _ hu), z3 u hu⟩) (by simp only [List.length_cons, List.length_append] at hl |-; omega)
    unfold D7
    cases hw : zt (fW true) orI 0 p with
    | none =>
     rw [hw] at hl144
     obtain ⟨y, hy⟩ := hl144
     simp only [qA, cond_true, cond_false, zI, qy, Option.bind_some, zr, zn, Bool.and_true, Bool.not_true, neF h2, eqT h2, hy, zl, hw, Option.bind_none]
     rfl
    | some x =>
     rw [hw] at hl144
     have hy := hl144.1 z1
     cases q with
     | nil =>
      simp only [List.nil_append] at hy
      simp only [qA, cond_true, cond_false, zI, qy, Option.bind_some, zr, zn, Bool.and_true, Bool.not_true, List.nil_append, neF h2, eqT h2, hy, zl, hw, eqT z1, eqT he]
      rfl
     | cons t q =>
      have h0 : ¬ t.1 = 0 := by have := (hkq t (List.mem_cons_self ..)).1; omega
      simp only [List.cons_append] at hy
      simp only [qA, cond_true, cond_false, zI, qy, Option.bind_some, zr, zn, Bool.and_true, Bool.not_true, Bool.not_false, List.cons_append, neF h2, eqT h2, hy, zl, hw, eqT z1, eqF h0]
      rfl
  ·have hka := hk a (List.mem_cons_self ..)
   have hi := zht _ hka.2.1
   simp only [List.cons_append]
   unfold D7
   by_cases h4 : a.1 = 4
   ·by_cases h0 : xz a.2.1 = 0
    ·have hd : decide (0 < xz a.2.1) = false := by simp; omega
     have hs : itS (a :: r) = none := by
      cases r with
      | nil => simp only [itS, if_pos h4, zjE h0, Option.map_none]
      | cons b r => simp only [itS, brS, if_neg h2, zhK]
     simp only [qA, cond_true, cond_false, zI, qy, Option.bind_some, zr, zn, Bool.and_true, Bool.not_true, Bool.not_false, neT h2, eqT h4, zbT _ hka.2.1, hd, hs]
     rfl
    ·have hd : decide (0 < xz a.2.1) = true := by simp; omega
     cases r with
     | nil =>
      simp only [qA, cond_true, cond_false, zI, qy, Option.bind_some, zr, zn, Bool.and_true, Bool.not_true, List.nil_append, neT h2, eqT h4, zbT _ hka.2.1, hd, itS, if_pos h4, zjd h0, Option.map_some, eqT he]
      rfl
     | cons b r =>
      have hb0 : ¬ b.1 = 0 := by have := (hkr b (List.mem_cons_self ..)).1; omega
      have hs : itS (a :: b :: r) = none := by simp only [itS, brS, if_neg h2, zhK]
      simp only [qA, cond_true, cond_false, zI, qy, Option.bind_some, zr, zn, Bool.and_true, Bool.not_true, Bool.not_false, List.cons_append, neT h2, eqT h4, zbT _ hka.2.1, hd, hs, eqF hb0]
      rfl
   ·have hs : itS (a :: r) = none := by
     cases r with
     | nil => simp only [itS, if_neg h4]
     | cons b r => simp only [itS, brS, if_neg h2, zhK]
    simp only [qA, cond_true, zI, qy, Option.bind_some, zr, zn, Bool.and_true, Bool.not_false, neT h2, eqF h4, hs]
    rfl
theorem zm9 (tag : List UInt8) (kd : Int) (st : List (Int × Int)) (md : Int) (sl : Bool) (f : UInt8) (e : Tok) (he : e.1 = 0) (z : Tok) (hz : z.1 = 3) (q : List Tok) (hk : ∀ t ∈ q, qe t) : G8 3000 tag tag kd st md sl f (z :: (q ++ [e])) = zkb tag (tkE q (cS tag kd st md sl f)) := by
 unfold G8
 cases q with
 | nil => simp only [qA, cond_true, cond_false, zI, qy, Option.bind_some, zr, zn, Bool.and_true, Bool.not_true, List.nil_append, eqT hz, eqT he]; rfl
 | cons t q =>
  have h0 : ¬ t.1 = 0 := by have := (hk t (List.mem_cons_self ..)).1; omega
  simp only [qA, cond_true, cond_false, zI, qy, Option.bind_some, zr, zn, Bool.and_true, Bool.not_true, Bool.not_false, List.cons_append, eqT hz, eqF h0]; rfl
def zm4 (r : List Tok) : Option UInt8 := (match zhK (brS false r) with
 | some x => some x
 | none => zt (fW false) orI 0 r).map zav
theorem znq (a : Tok) (h2 : a.1 = 2) (r : List Tok) : zm4 (a :: r) = match zcK r with
  | none => none
  | some ([], q) => tkE q 0
  | some (t :: p, q) => (zt (fW false) orI 0 (t :: p)).bind fun x => tkE q (zav x) := by
 have h4 : ¬ a.1 = 4 := by omega
 have hw : zt (fW false) orI 0 (a :: r) = none := by
  cases r with
  | nil => simp only [zt, if_neg h4]
  | cons b r => simp only [zt, if_neg h4]
 unfold zm4
 rw [hw]
 simp only [brS, if_pos h2]
 cases hc : zcK r with
 | none => rfl
 | some pq =>
  obtain ⟨p, q⟩ := pq
  cases p with
  | nil => cases q <;> rfl
  | cons t p =>
   simp only
   cases zt (fW false) orI 0 (t :: p) with
   | none => rfl
   | some x => cases q <;> rfl
theorem zme (r : List Tok) (h : brS false r = none) : zm4 r = (zt (fW false) orI 0 r).map zav := by
 unfold zm4
 rw [h]; rfl
theorem zko (tag : List UInt8) (kd : Int) (st : List (Int × Int)) (md : Int) (sl : Bool) (e : Tok) (he : e.1 = 0) (r : List Tok) (hl : r.length <= 2000) (hk : ∀ t ∈ r, qe t) (hb : brS false r = none) (t : Tok) (r' : List Tok) (hr : r ++ [e] = t :: r') (h2 : ¬ t.1 = 2) : D8 3000 tag kd st md sl (r ++ [e]) = zkb tag ((zm4 r).map fun f => cS tag kd st md sl f) := by
 rw [zme r hb]
 have h206 := zhQ tag kd st md sl e [] (.inl he) r 0 3000 (fun u hu => ⟨hk u hu, by have := (hk u hu).1; omega⟩) (by omega)
 obtain ⟨o, o1, o2, o3⟩ := zkF r 0 (by omega)
 rw [show UInt8.ofNat 0 = (0 : UInt8) from rfl] at o3
 rw [show ((0 : Nat) : Int) = (0 : Int) from rfl] at o2
 rw [hr] at h206 |-
 unfold D8
 cases o with
 | none =>
  rw [o3] at h206
  simp only [Option.map_none] at h206
  obtain ⟨y, hy⟩ := h206
  simp only [qA, cond_true, cond_false, zI, qy, Option.bind_some, zr, zn, Bool.and_true, Bool.not_false, eqF h2, hy, zl, o2, Option.map_none]
  rfl
 | some n =>
  rw [o3] at h206
  simp only [Option.map_some] at h206
  have hy := h206.1 he
  have hn := o1 n rfl
  simp only [qA, cond_true, cond_false, zI, qy, Option.bind_some, zr, zn, Bool.and_true, Bool.not_true, Bool.not_false, eqF h2, hy, zl, o2, Option.map_some, eqT he, jS (show n < 256 by omega)]
  rfl
theorem zqD (tag : List UInt8) (kd : Int) (st : List (Int × Int)) (md : Int) (sl : Bool) (e : Tok) (he : e.1 = 0) (r : List Tok) (hl : r.length <= 2000) (hk : ∀ t ∈ r, qe t) : D8 3000 tag kd st md sl (r ++ [e]) = zkb tag ((zm4 r).map fun f => cS tag kd st md sl f) := by
 have f2 : ¬ e.1 = 2 := by omega
 have f3 : ¬ e.1 = 3 := by omega
 cases r with
 | nil => exact zko tag kd st md sl e he [] (by simp) (fun _ h => by cases h) rfl e [] rfl f2
 | cons a r =>
  have hkr : ∀ t ∈ r, qe t := fun t ht => hk t (List.mem_cons_of_mem _ ht)
  by_cases h2 : a.1 = 2
  ·rw [znq a h2 r]
   cases hc : zcK r with
   | none =>
    have hn := zaH hc
    have hl179 := zfd tag kd st md sl e [] (.inl he) r 0 3000 (fun t ht => ⟨hkr t ht, hn t ht⟩) (by simp only [List.length_cons] at hl; omega)
    have : ∃ y, zy 3000 3000 (r ++ [e]) tag kd st md sl 0 = some (.inl y) := by
     cases hw : zt fP orP 0 r with
     | none => rw [hw] at hl179; exact hl179
     | some x => rw [hw] at hl179; exact hl179.2 f3
    obtain ⟨y, hy⟩ := this
    obtain ⟨t, r', hr, ht⟩ := zky r e
    have ht3 : ¬ t.1 = 3 := by
     rcases ht with rfl | ht
     ·exact f3
     ·exact hn t ht
    simp only [List.cons_append]
    rw [hr] at hy |-
    unfold D8
    simp only [qA, cond_true, cond_false, zI, qy, Option.bind_some, zr, zn, Bool.and_true, Bool.not_true, eqT h2, neT ht3, hy, zl]
    rfl
   | some pq =>
    obtain ⟨p, q⟩ := pq
    obtain ⟨z, z1, z2, z3⟩ := km hc
    subst z2
    have hkq : ∀ t ∈ q, qe t := fun t ht => hkr t (List.mem_append_right _ (List.mem_cons_of_mem _ ht))
    rw [show (a :: (p ++ z :: q)) ++ [e] = a :: (p ++ z :: (q ++ [e])) from by simp]
    cases p with
    | nil =>
     unfold D8
     simp only [qA, cond_true, cond_false, zI, qy, Option.bind_some, zr, zn, Bool.and_true, Bool.not_true, List.nil_append, eqT h2, neF z1, zm9 tag kd st md sl _ e he z z1 q hkq]
     cases q <;> rfl
    | cons t p =>
     have hl179 := zfd tag kd st md sl z (q ++ [e]) (.inr z1) (t :: p) 0 3000 (fun u hu => ⟨hkr u (List.mem_append_left _ hu), z3 u hu⟩) (by simp only [List.length_cons, List.length_append] at hl |-; omega)
     obtain ⟨o, o1, o2, o3⟩ := zkF (t :: p) 0 (by omega)
     rw [show UInt8.ofNat 0 = (0 : UInt8) from rfl] at o3
     rw [show ((0 : Nat) : Int) = (0 : Int) from rfl] at o2
     have ht3 := z3 t (List.mem_cons_self ..)
     unfold D8
     cases o with
     | none =>
      rw [o3] at hl179
      simp only [Option.map_none, List.cons_append] at hl179
      obtain ⟨y, hy⟩ := hl179
      simp only [qA, cond_true, cond_false, zI, qy, Option.bind_some, zr, zn, Bool.and_true, Bool.not_true, List.cons_append, eqT h2, neT ht3, hy, zl, o2, Option.map_none, Option.bind_none]
      rfl
     | some n =>
      rw [o3] at hl179
      simp only [Option.map_some, List.cons_append] at hl179
      have hy := hl179.1 z1
      have hn := o1 n rfl
      simp only [qA, cond_true, cond_false, zI, qy, Option.bind_some, zr, zn, Bool.and_true, Bool.not_true, List.cons_append, eqT h2, neT ht3, hy, zl, o2, Option.map_some, zm9 tag kd st md sl _ e he z z1 q hkq, jS (show n < 256 by omega)]
      cases q <;> rfl
  ·exact zko tag kd st md sl e he (a :: r) hl hk (by simp only [brS, if_neg h2]) a (r ++ [e]) rfl h2
def zkG (s : List UInt8) : Option (List (Int × Int)) := jr (qx 44 s)
theorem zhV (s : List UInt8) (hs : s.length <= 2000) : jo 3000 s = some (match zkG s with
  | some l => (l, true, ())
  | none => ([], false, ())) := znY s hs
theorem zoE (s : List UInt8) (hs : s.length <= 2000) : wm 3000 s = some (match zkG s with
  | some l => (l, true, ())
  | none => ([], false, ())) := zqp s hs
def SB7 (tag : List UInt8) (kd : Int) (r : List Tok) : Option (El uS2) := tk 1 r fun _ r => tk 4 r fun t r => (zkG t.2.1).bind fun st => tk 1 r fun _ r => (itS r).map fun x => cI tag kd st x
def SB8 (tag : List UInt8) (kd : Int) (r : List Tok) : Option (El uS2) := tk 1 r fun _ r => tk 4 r fun t r => (zkG t.2.1).bind fun st => tk 1 r fun _ r => tk 4 r fun w r => (zhb w.2.1).bind fun mb => tk 1 r fun _ r => (zm4 r).map fun f => cS tag kd st mb.1 mb.2 f
theorem zqJ (tag : List UInt8) (kd : Int) (e : Tok) (he : e.1 = 0) (r : List Tok) (hl : r.length <= 2000) (hk : ∀ t ∈ r, qe t) : B7 3000 tag kd (r ++ [e]) = zkb tag (SB7 tag kd r) := by
 have f1 : ¬ e.1 = 1 := by omega
 have f4 : ¬ e.1 = 4 := by omega
 unfold SB7
 cases r with
 | nil =>
  simp only [List.nil_append]
  unfold B7
  simp only [qA, cond_true, zI, qy, Option.bind_some, zr, zn, Bool.and_true, Bool.not_false, eqF f1]
  rfl
 | cons s r =>
  simp only [List.cons_append]
  unfold B7
  by_cases h1 : s.1 = 1
  ·cases r with
   | nil =>
    simp only [qA, cond_true, cond_false, zI, qy, Option.bind_some, zr, zn, Bool.and_true, Bool.not_true, Bool.not_false, List.nil_append, eqT h1, eqF f4, tk, if_pos h1]
    rfl
   | cons t r =>
    have hkt := hk t (by simp)
    by_cases h4 : t.1 = 4
    ·have hset := zhV t.2.1 hkt.2.1
     cases hs : zkG t.2.1 with
     | none =>
      rw [hs] at hset
      simp only [qA, cond_true, cond_false, zI, qy, Option.bind_some, zr, zn, Bool.and_true, Bool.not_true, Bool.not_false, List.cons_append, eqT h1, eqT h4, hset, tk, if_pos h1, if_pos h4, hs, Option.bind_none]
      rfl
     | some st =>
      rw [hs] at hset
      cases r with
      | nil =>
       simp only [qA, cond_true, cond_false, zI, qy, Option.bind_some, zr, zn, Bool.and_true, Bool.not_true, Bool.not_false, List.cons_append, List.nil_append, eqT h1, eqT h4, hset, eqF f1, tk, if_pos h1, if_pos h4, hs]
       rfl
      | cons s2 r =>
       have hkr : ∀ t ∈ r, qe t := fun u hu => hk u (List.mem_cons_of_mem _ (List.mem_cons_of_mem _ (List.mem_cons_of_mem _ hu)))
       have hlr : r.length <= 2000 := by simp only [List.length_cons] at hl; omega
       by_cases h5 : s2.1 = 1
       ·simp only [qA, cond_true, cond_false, zI, qy, Option.bind_some, zr, zn, Bool.and_true, Bool.not_true, List.cons_append, eqT h1, eqT h4, hset, eqT h5, tk, if_pos h1, if_pos h4, hs, if_pos h5]
        exact zpK tag kd st e he r hlr hkr
       ·simp only [qA, cond_true, cond_false, zI, qy, Option.bind_some, zr, zn, Bool.and_true, Bool.not_true, Bool.not_false, List.cons_append, eqT h1, eqT h4, hset, eqF h5, tk, if_pos h1, if_pos h4, hs, if_neg h5]
        rfl
    ·simp only [qA, cond_true, cond_false, zI, qy, Option.bind_some, zr, zn, Bool.and_true, Bool.not_true, Bool.not_false, List.cons_append, eqT h1, eqF h4, tk, if_pos h1, if_neg h4]
     rfl
  ·simp only [qA, cond_true, zI, qy, Option.bind_some, zr, zn, Bool.and_true, Bool.not_false, eqF h1, tk, if_neg h1]
   rfl
theorem zpX (tag : List UInt8) (kd : Int) (e : Tok) (he : e.1 = 0) (r : List Tok) (hl : r.length <= 2000) (hk : ∀ t ∈ r, qe t) : B8 3000 tag kd (r ++ [e]) = zkb tag (SB8 tag kd r) := by
 have f1 : ¬ e.1 = 1 := by omega
 have f4 : ¬ e.1 = 4 := by omega
 unfold SB8
 cases r with
 | nil =>
  simp only [List.nil_append]
  unfold B8
  simp only [qA, cond_true, zI, qy, Option.bind_some, zr, zn, Bool.and_true, Bool.not_false, eqF f1]
  rfl
 | cons s r =>
  simp only [List.cons_append]
  unfold B8
  by_cases h1 : s.1 = 1
  ·cases r with
   | nil =>
    simp only [qA, cond_true, cond_false, zI, qy, Option.bind_some, zr, zn, Bool.and_true, Bool.not_true, Bool.not_false, List.nil_append, eqT h1, eqF f4, tk, if_pos h1]
    rfl
   | cons t r =>
    have hkt := hk t (by simp)
    by_cases h4 : t.1 = 4
    ·have hset := zhV t.2.1 hkt.2.1
     cases hs : zkG t.2.1 with
     | none =>
      rw [hs] at hset
      simp only [qA, cond_true, cond_false, zI, qy, Option.bind_some, zr, zn, Bool.and_true, Bool.not_true, Bool.not_false, List.cons_append, eqT h1, eqT h4, hset, tk, if_pos h1, if_pos h4, hs, Option.bind_none]
      rfl
     | some st =>
      rw [hs] at hset
      cases r with
      | nil =>
       simp only [qA, cond_true, cond_false, zI, qy, Option.bind_some, zr, zn, Bool.and_true, Bool.not_true, Bool.not_false, List.cons_append, List.nil_append, eqT h1, eqT h4, hset, eqF f1, tk, if_pos h1, if_pos h4, hs]
       rfl
      | cons s2 r =>
       have hkr : ∀ t ∈ r, qe t := fun u hu => hk u (List.mem_cons_of_mem _ (List.mem_cons_of_mem _ (List.mem_cons_of_mem _ hu)))
       have hlr : r.length <= 2000 := by simp only [List.length_cons] at hl; omega
       by_cases h5 : s2.1 = 1
       ·simp only [qA, cond_true, cond_false, zI, qy, Option.bind_some, zr, zn, Bool.and_true, Bool.not_true, List.cons_append, eqT h1, eqT h4, hset, eqT h5, tk, if_pos h1, if_pos h4, hs, if_pos h5]
        cases r with
        | nil =>
         simp only [qA, cond_true, qy, zr, zn, Bool.not_false, List.nil_append, eqF f4]
         rfl
        | cons w r =>
         have hkw := hkr w (by simp)
         by_cases h6 : w.1 = 4
         ·have hup := zca w.2.1 hkw.2.1
          obtain ⟨u, b, i, hcut, hix, hmo⟩ := zin (w.2.1.map up) (by rw [List.length_map]; exact hkw.2.1)
          have hmS : zhb w.2.1 = zi6 (w.2.1.map up) := rfl
          cases hm : zi6 (w.2.1.map up) with
          | none =>
           rw [hm] at hmo
           simp only at hmo
           have hd : decide ((0 : Int) <= i) = false := by rw [hmo]; rfl
           simp only [qA, cond_true, cond_false, qy, Option.bind_some, zr, zn, Bool.not_true, Bool.not_false, List.cons_append, eqT h6, hup, hcut, hix, hd, if_pos h6, hmS, hm, Option.bind_none]
           rfl
          | some mb =>
           obtain ⟨m, b'⟩ := mb
           rw [hm] at hmo
           obtain ⟨hm1, hm2, hm3⟩ := hmo
           subst hm1 hm2
           have hd : decide ((0 : Int) <= i) = true := by simpa using hm3
           cases r with
           | nil =>
            simp only [qA, cond_true, cond_false, qy, Option.bind_some, zr, zn, Bool.not_true, Bool.not_false, List.cons_append, List.nil_append, eqT h6, hup, hcut, hix, hd, if_pos h6, hmS, hm, eqF f1]
            rfl
           | cons s3 r =>
            by_cases h7 : s3.1 = 1
            ·simp only [qA, cond_true, cond_false, qy, Option.bind_some, zr, zn, Bool.not_true, List.cons_append, eqT h6, hup, hcut, hix, hd, if_pos h6, hmS, hm, eqT h7, if_pos h7]
             exact zqD tag kd st i b' e he r (by simp only [List.length_cons] at hlr; omega) (fun u hu => hkr u (List.mem_cons_of_mem _ (List.mem_cons_of_mem _ hu)))
            ·simp only [qA, cond_true, cond_false, qy, Option.bind_some, zr, zn, Bool.not_true, Bool.not_false, List.cons_append, eqT h6, hup, hcut, hix, hd, if_pos h6, hmS, hm, eqF h7, if_neg h7]
             rfl
         ·simp only [qA, cond_true, qy, zr, zn, Bool.not_false, List.cons_append, eqF h6, if_neg h6]
          rfl
       ·simp only [qA, cond_true, cond_false, zI, qy, Option.bind_some, zr, zn, Bool.and_true, Bool.not_true, Bool.not_false, List.cons_append, eqT h1, eqT h4, hset, eqF h5, tk, if_pos h1, if_pos h4, hs, if_neg h5]
        rfl
    ·simp only [qA, cond_true, cond_false, zI, qy, Option.bind_some, zr, zn, Bool.and_true, Bool.not_true, Bool.not_false, List.cons_append, eqT h1, eqF h4, tk, if_pos h1, if_neg h4]
     rfl
  ·simp only [qA, cond_true, zI, qy, Option.bind_some, zr, zn, Bool.and_true, Bool.not_false, eqF h1, tk, if_neg h1]
   rfl
def SB5 (tag : List UInt8) (kd : Int) (r : List Tok) : Option (El uS2) := tk 1 r fun _ r => tkM r fun m r => tkE r (cA tag kd m.2.1 0 [])
def SB6 (tag : List UInt8) (kd : Int) (r : List Tok) : Option (El uS2) := tk 1 r fun _ r => tkM r fun m r => tk 1 r fun _ r => (zfY r).map fun p => cA tag kd m.2.1 p.1 p.2
def zia (tag : List UInt8) (r : List Tok) : Option (El uS2) := tk 4 r fun w r =>
 if zao w.2.1 = 0 then none
 else if zao w.2.1 <= 4 then tkE r (cA tag (zao w.2.1) [] 0 [])
 else if zao w.2.1 = 5 then SB5 tag (zao w.2.1) r
 else if zao w.2.1 = 6 then SB6 tag (zao w.2.1) r
 else if zao w.2.1 = 7 then SB7 tag (zao w.2.1) r
 else SB8 tag (zao w.2.1) r
def BR (o : Option ((El uS2) × Bool × Unit)) (s : Option (El uS2)) : Prop := match s with
 | some c => o = some (c, true, ())
 | none => ∃ c, o = some (c, false, ())
theorem wZ {c : El uS2} {s : Option (El uS2)} (h : s = none) : BR (some (c, false, ())) s := by
 rw [h]; exact ⟨c, rfl⟩
theorem zkM {α : Type} {l : List α} {k n : Nat} (h : k <= l.length) (hn : n <= k) : decide ((((List.length l) : Nat) : Int) < ((n : Nat) : Int)) = false := by simp; omega
theorem zke {α : Type} {l : List α} {n : Nat} (h : l.length ≠ n) : ((((List.length l) : Nat) : Int) == ((n : Nat) : Int)) = false := by simp; omega
theorem zms (tag : List UInt8) (kd : Int) (a : Tok) : SB5 tag kd [] = none /\ SB5 tag kd [a] = none := ⟨rfl, by
 unfold SB5 tk tkM
 by_cases h : a.1 = 1
 ·simp only [if_pos h]
 ·simp only [if_neg h]⟩
theorem zl9 (tag : List UInt8) (kd : Int) (a : Tok) : SB6 tag kd [] = none /\ SB6 tag kd [a] = none := ⟨rfl, by
 unfold SB6 tk tkM
 by_cases h : a.1 = 1
 ·simp only [if_pos h]
 ·simp only [if_neg h]⟩
theorem zm0 (tag : List UInt8) (kd : Int) (a : Tok) : SB7 tag kd [] = none /\ SB7 tag kd [a] = none := ⟨rfl, by
 unfold SB7
 by_cases h : a.1 = 1
 ·simp only [tk, if_pos h]
 ·simp only [tk, if_neg h]⟩
theorem znI (tag : List UInt8) (kd : Int) (a : Tok) : SB8 tag kd [] = none /\ SB8 tag kd [a] = none := ⟨rfl, by
 unfold SB8
 by_cases h : a.1 = 1
 ·simp only [tk, if_pos h]
 ·simp only [tk, if_neg h]⟩
theorem zrO (tag : List UInt8) (kd : Int) (s m : Tok) (r : List Tok) : SB7 tag kd (s :: m :: r) = if s.1 = 1 /\ m.1 = 4 then (zkG m.2.1).bind fun st => tk 1 r fun _ r => (itS r).map fun x => cI tag kd st x else none := by
 unfold SB7
 by_cases h1 : s.1 = 1
 ·by_cases h4 : m.1 = 4
  ·rw [if_pos ⟨h1, h4⟩]
   simp only [tk, if_pos h1, if_pos h4]
  ·rw [if_neg (fun h => h4 h.2)]
   simp only [tk, if_pos h1, if_neg h4]
 ·rw [if_neg (fun h => h1 h.1)]
  simp only [tk, if_neg h1]
theorem zra (tag : List UInt8) (kd : Int) (s m : Tok) (r : List Tok) : SB8 tag kd (s :: m :: r) = if s.1 = 1 /\ m.1 = 4 then (zkG m.2.1).bind fun st => tk 1 r fun _ r => tk 4 r fun w r => (zhb w.2.1).bind fun mb => tk 1 r fun _ r => (zm4 r).map fun f => cS tag kd st mb.1 mb.2 f else none := by
 unfold SB8
 by_cases h1 : s.1 = 1
 ·by_cases h4 : m.1 = 4
  ·rw [if_pos ⟨h1, h4⟩]
   simp only [tk, if_pos h1, if_pos h4]
  ·rw [if_neg (fun h => h4 h.2)]
   simp only [tk, if_pos h1, if_neg h4]
 ·rw [if_neg (fun h => h1 h.1)]
  simp only [tk, if_neg h1]
theorem zqW (tag : List UInt8) (kd : Int) (s m : Tok) (r : List Tok) : SB6 tag kd (s :: m :: r) = if s.1 = 1 /\ zgl m = true then tk 1 r fun _ r => (zfY r).map fun p => cA tag kd m.2.1 p.1 p.2 else none := by
 unfold SB6
 by_cases h1 : s.1 = 1
 ·by_cases h4 : zgl m = true
  ·rw [if_pos ⟨h1, h4⟩]
   simp only [tk, tkM, if_pos h1, if_pos h4]
  ·rw [if_neg (fun h => h4 h.2)]
   simp only [tk, tkM, if_pos h1, if_neg h4]
 ·rw [if_neg (fun h => h1 h.1)]
  simp only [tk, if_neg h1]
theorem zrA (tag : List UInt8) (kd : Int) (s m : Tok) (r : List Tok) : SB5 tag kd (s :: m :: r) = if s.1 = 1 /\ zgl m = true then tkE r (cA tag kd m.2.1 0 []) else none := by
 unfold SB5
 by_cases h1 : s.1 = 1
 ·by_cases h4 : zgl m = true
  ·rw [if_pos ⟨h1, h4⟩]
   simp only [tk, tkM, if_pos h1, if_pos h4]
  ·rw [if_neg (fun h => h4 h.2)]
   simp only [tk, tkM, if_pos h1, if_neg h4]
 ·rw [if_neg (fun h => h1 h.1)]
  simp only [tk, if_neg h1]
theorem kn1 {a b : Tok} {r : List Tok} {c : Bool} (h : (kc b != 115) = c) : (nth .u8 ((a :: b :: r).map kc) 1 != (115 : UInt8)) = c := h
theorem kn3 {a b d e : Tok} {r : List Tok} {c : Bool} (h : (kc e != 115) = c) : (nth .u8 ((a :: b :: d :: e :: r).map kc) 3 != (115 : UInt8)) = c := h
theorem kn5 {a b d e f g : Tok} {r : List Tok} {c : Bool} (h : (kc g != 115) = c) : (nth .u8 ((a :: b :: d :: e :: f :: g :: r).map kc) 5 != (115 : UInt8)) = c := h
theorem zt4 (a b c : Tok) (r : List Tok) : nth uS1 (@List.cons Tok a (b :: c :: r)) 2 = c := rfl
theorem zuI (a b c d e : Tok) (r : List Tok) : nth uS1 (@List.cons Tok a (b :: c :: d :: e :: r)) 4 = e := rfl
theorem zrm (a b c d : Tok) (r : List Tok) : ze (a :: b :: c :: d :: r) 4 = r := by rw [zb2]; rfl
theorem zsT (a b c d e f : Tok) (r : List Tok) : ze (a :: b :: c :: d :: e :: f :: r) 6 = r := by rw [zb2]; rfl
theorem kcF {t : Tok} (h : qe t) (h1 : t.1 = 1) : (kc t != 115) = false := by rw [zs8 h, eqT h1]; rfl
theorem kcT {t : Tok} (h : qe t) (h1 : ¬ t.1 = 1) : (kc t != 115) = true := by rw [zs8 h, eqF h1]; rfl
theorem zn2 (tag : List UInt8) (l : List Tok) (hl : l.length <= 2000) (hk : ∀ t ∈ l, qe t) : BR (xW 3000 tag l) (zia tag l) := by
 cases l with
 | nil => exact ⟨_, rfl⟩
 | cons w r =>
  have e0 : ((((List.length (w :: r)) : Nat) : Int) == (0 : Int)) = false := zke (n := 0) (by simp)
  have hkw := hk w (List.mem_cons_self ..)
  have hks := zkT (w :: r) hl hk
  have hkv := zgQ w.2.1 hkw.2.1
  have hkr := zoy w.2.1 hkw.2.1
  unfold xW zia
  simp only [e0, cond_false, qA, cond_true, qy, hkr, Option.bind_some, hks]
  by_cases h4 : w.1 = 4
  ·simp only [neF h4, cond_false, tk, if_pos h4]
   generalize zao w.2.1 = k at hkv |-
   by_cases hz : k = 0
   ·simp only [eqT hz, cond_true, show decide ((0 : Int) < k) = false from by simp; omega, cond_false, if_pos hz]
    exact ⟨_, rfl⟩
   ·simp only [eqF hz, cond_false, if_neg hz, show decide ((0 : Int) < k) = true from by simp; omega, cond_true]
    by_cases hk4 : k <= 4
    ·simp only [show decide (k <= (4 : Int)) = true from by simpa using hk4, cond_true, if_pos hk4]
     cases r with
     | nil => exact rfl
     | cons a r =>
      rw [show ((((List.length (w :: a :: r)) : Nat) : Int) == (1 : Int)) = false from zke (n := 1) (by simp)]
      exact ⟨_, rfl⟩
    ·simp only [show decide (k <= (4 : Int)) = false from by simpa using hk4, cond_false, if_neg hk4]
     match r, hl, hk with
     | [], hl, hk =>
      simp only [show decide ((((List.length [w]) : Nat) : Int) < 3) = true from rfl, cond_true]
      refine wZ ?_
      split
      ·rfl
      ·split
       ·rfl
       ·split <;> rfl
     | [a], hl, hk =>
      simp only [show decide ((((List.length [w, a]) : Nat) : Int) < 3) = true from rfl, cond_true]
      refine wZ ?_
      rw [(zms tag k a).2, (zl9 tag k a).2, (zm0 tag k a).2, (znI tag k a).2]
      split
      ·rfl
      ·split
       ·rfl
       ·split <;> rfl
     | s :: m :: r, hl, hk =>
      have hs := hk s (by simp)
      have hm := hk m (by simp)
      have hkr : ∀ t ∈ r, qe t := fun t ht => hk t (List.mem_cons_of_mem _ (List.mem_cons_of_mem _ (List.mem_cons_of_mem _ ht)))
      have hlr : r.length <= 1997 := by simp only [List.length_cons] at hl; omega
      have e3 : decide ((((List.length (w :: s :: m :: r)) : Nat) : Int) < (3 : Int)) = false := zkM (k := 3) (n := 3) (by simp) (by omega)
      have i1 : inb (1 : Int) (List.length ((w :: s :: m :: r).map kc)) = true := zX (i := 1) (by simp)
      have i2 : inb (2 : Int) (List.length (w :: s :: m :: r)) = true := zX (i := 2) (by simp)
      have hbox := zqf m hm.2.1
      have hset := zoE m.2.1 hm.2.1
      rw [zrA, zqW, zrO, zra]
      by_cases h1 : s.1 = 1
      ·simp only [e3, cond_false, i1, cond_true, i2, zt4]
       rw [kn1 (kcF hs h1)]
       simp only [cond_false]
       by_cases hk6 : k <= 6
       ·simp only [show decide (k <= (6 : Int)) = true from by simpa using hk6, cond_true, hbox, Option.bind_some]
        cases hb : zgl m with
        | false =>
         simp only [Bool.not_false, cond_true]
         refine wZ ?_
         by_cases h5 : k = 5
         ·rw [if_pos h5, if_neg (fun h => by cases h.2)]
         ·rw [if_neg h5, if_pos (show k = 6 by omega), if_neg (fun h => by cases h.2)]
        | true =>
         simp only [Bool.not_true, cond_false]
         by_cases h5 : k = 5
         ·simp only [eqT h5, cond_true, if_pos h5]
          rw [if_pos (And.intro h1 trivial)]
          cases r with
          | nil => exact rfl
          | cons a r =>
           rw [show ((((List.length (w :: s :: m :: a :: r)) : Nat) : Int) == (3 : Int)) = false from zke (n := 3) (by simp)]
           exact ⟨_, rfl⟩
         ·have h6 : k = 6 := by omega
          simp only [eqF h5, cond_false, if_neg h5, if_pos h6]
          rw [if_pos (And.intro h1 trivial)]
          cases r with
          | nil =>
           simp only [show decide ((((List.length [w, s, m]) : Nat) : Int) < 4) = true from rfl, cond_true]
           exact ⟨_, rfl⟩
          | cons s2 r =>
           have hs2 := hkr s2 (by simp)
           have e4 : decide ((((List.length (w :: s :: m :: s2 :: r)) : Nat) : Int) < (4 : Int)) = false := zkM (k := 4) (n := 4) (by simp) (by omega)
           have i3 : inb (3 : Int) (List.length ((w :: s :: m :: s2 :: r).map kc)) = true := zX (i := 3) (by simp)
           have b4 : zW (4 : Int) (w :: s :: m :: s2 :: r) = true := zcD (a := 4) (by simp)
           by_cases h7 : s2.1 = 1
           ·have happ := zqu tag k m.2.1 r (by simp only [List.length_cons] at hlr; omega) (fun t ht => hkr t (List.mem_cons_of_mem _ ht))
            unfold cA at happ
            simp only [e4, cond_false, i3, cond_true, b4, Bool.and_true, zrm, tk, if_pos h7]
            rw [kn3 (kcF hs2 h7)]
            simp only [cond_false]
            cases ha : zfY r with
            | none =>
             rw [ha] at happ
             obtain ⟨c, hc⟩ := happ
             rw [hc]
             exact ⟨_, rfl⟩
            | some p =>
             obtain ⟨f, d⟩ := p
             rw [ha] at happ
             simp only at happ
             rw [happ]
             rfl
           ·simp only [e4, cond_false, i3, cond_true, tk, if_neg h7]
            rw [kn3 (kcT hs2 h7)]
            simp only [cond_true]
            exact ⟨_, rfl⟩
       ·have h5 : ¬ k = 5 := by omega
        have h6 : ¬ k = 6 := by omega
        simp only [show decide (k <= (6 : Int)) = false from by simpa using hk6, cond_false, hset, Option.bind_some, if_neg h5, if_neg h6]
        by_cases hm4 : m.1 = 4
        ·rw [if_pos (And.intro h1 hm4), if_pos (And.intro h1 hm4)]
         simp only [neF hm4, cond_false]
         cases hst : zkG m.2.1 with
         | none =>
          simp only [Bool.not_false, cond_true, Option.bind_none]
          refine wZ ?_
          split <;> rfl
         | some st =>
          simp only [Bool.not_true, cond_false, Option.bind_some]
          match r, hkr, hlr with
          | [], _, _ =>
           simp only [show decide ((((List.length [w, s, m]) : Nat) : Int) < 5) = true from rfl, cond_true]
           refine wZ ?_
           split <;> rfl
          | [s2], _, _ =>
           simp only [show decide ((((List.length [w, s, m, s2]) : Nat) : Int) < 5) = true from rfl, cond_true]
           refine wZ ?_
           by_cases h7 : s2.1 = 1
           ·simp only [tk, if_pos h7]
            split <;> rfl
           ·simp only [tk, if_neg h7]
            split <;> rfl
          | s2 :: t :: r, hkr, hlr =>
           have hs2 := hkr s2 (by simp)
           have ht := hkr t (by simp)
           have hkr2 : ∀ u ∈ r, qe u := fun u hu => hkr u (List.mem_cons_of_mem _ (List.mem_cons_of_mem _ hu))
           have hlr2 : r.length <= 1995 := by simp only [List.length_cons] at hlr; omega
           have e5 : decide ((((List.length (w :: s :: m :: s2 :: t :: r)) : Nat) : Int) < (5 : Int)) = false := zkM (k := 5) (n := 5) (by simp) (by omega)
           have i3 : inb (3 : Int) (List.length ((w :: s :: m :: s2 :: t :: r).map kc)) = true := zX (i := 3) (by simp)
           have b4 : zW (4 : Int) (w :: s :: m :: s2 :: t :: r) = true := zcD (a := 4) (by simp)
           have i4 : inb (4 : Int) (List.length (w :: s :: m :: s2 :: t :: r)) = true := zX (i := 4) (by simp)
           by_cases h7 : s2.1 = 1
           ·simp only [e5, cond_false, i3, cond_true, b4, Bool.and_true, zrm, tk, if_pos h7]
            rw [kn3 (kcF hs2 h7)]
            simp only [cond_false]
            by_cases hk7 : k = 7
            ·simp only [eqT hk7, cond_true, if_pos hk7]
             have hlist := zhB true (t :: r) (by simp only [List.length_cons]; omega) (fun u hu => by
              rcases List.mem_cons.1 hu with rfl | hu
              ·exact ht
              ·exact hkr2 u hu)
             cases r with
             | nil =>
              rw [show ((((List.length [w, s, m, s2, t]) : Nat) : Int) == (5 : Int)) = true from rfl]
              have hwords := zc2 true [t] (by simp) (fun u hu => by rw [List.mem_singleton.1 hu]; exact ht)
              have hl1 : ∃ v b, qW 3000 [t] true = some (v, b, ()) := by
               cases ho : zhK (brS true [t]) with
               | none => rw [ho] at hlist; obtain ⟨v, hv⟩ := hlist; exact ⟨v, false, hv⟩
               | some x => rw [ho] at hlist; exact ⟨x, true, hlist⟩
              obtain ⟨v, b, hv⟩ := hl1
              simp only [hv, Option.bind_some, cond_true]
              have hi : itS [t] = zt (fW true) orI 0 [t] := rfl
              rw [hi]
              cases ho : zt (fW true) orI 0 [t] with
              | none => rw [ho] at hwords; obtain ⟨v, hv⟩ := hwords; rw [hv]; exact ⟨_, rfl⟩
              | some x => rw [ho] at hwords; simp only [WR] at hwords; rw [hwords]; rfl
             | cons b r =>
              rw [show ((((List.length (w :: s :: m :: s2 :: t :: b :: r)) : Nat) : Int) == (5 : Int)) = false from zke (n := 5) (by simp)]
              simp only [cond_false]
              have hi : itS (t :: b :: r) = zhK (brS true (t :: b :: r)) := rfl
              rw [hi]
              cases ho : zhK (brS true (t :: b :: r)) with
              | none => rw [ho] at hlist; obtain ⟨v, hv⟩ := hlist; rw [hv]; exact ⟨_, rfl⟩
              | some x => rw [ho] at hlist; simp only [WR] at hlist; rw [hlist]; rfl
            ·simp only [eqF hk7, cond_false, if_neg hk7, i4, cond_true, zuI, zoK t.2.1 ht.2.1]
             by_cases ht4 : t.1 = 4
             ·simp only [neF ht4, cond_false, if_pos ht4]
              cases hmo : zhb t.2.1 with
              | none =>
               simp only [zk3, Option.bind_some, show decide ((-1 : Int) < 0) = true from rfl, cond_true, Option.bind_none]
               exact ⟨_, rfl⟩
              | some mb =>
               obtain ⟨mo, sl⟩ := mb
               have hmo0 : decide (mo < (0 : Int)) = false := by
                obtain ⟨w', b', i, _, _, h3⟩ := zin (t.2.1.map up) (by rw [List.length_map]; exact ht.2.1)
                rw [show zi6 (t.2.1.map up) = some (mo, sl) from hmo] at h3
                obtain ⟨h4, h5, h6⟩ := h3
                simp; omega
               simp only [zk3, Option.bind_some, hmo0, cond_false]
               match r, hkr2, hlr2 with
               | [], _, _ =>
                simp only [show decide ((((List.length [w, s, m, s2, t]) : Nat) : Int) < 7) = true from rfl, cond_true]
                exact ⟨_, rfl⟩
               | [s3], _, _ =>
                simp only [show decide ((((List.length [w, s, m, s2, t, s3]) : Nat) : Int) < 7) = true from rfl, cond_true]
                refine wZ ?_
                by_cases h8 : s3.1 = 1
                ·simp only [if_pos h8]; rfl
                ·simp only [if_neg h8]
               | s3 :: u :: r, hkr2, hlr2 =>
                have hs3 := hkr2 s3 (by simp)
                have e7 : decide ((((List.length (w :: s :: m :: s2 :: t :: s3 :: u :: r)) : Nat) : Int) < (7 : Int)) = false := zkM (k := 7) (n := 7) (by simp) (by omega)
                have i5 : inb (5 : Int) (List.length ((w :: s :: m :: s2 :: t :: s3 :: u :: r).map kc)) = true := zX (i := 5) (by simp)
                have b6 : zW (6 : Int) (w :: s :: m :: s2 :: t :: s3 :: u :: r) = true := zcD (a := 6) (by simp)
                by_cases h8 : s3.1 = 1
                ·have hku : ∀ v ∈ u :: r, qe v := fun v hv => hkr2 v (List.mem_cons_of_mem _ hv)
                 have hlu : (u :: r).length <= 2000 := by simp only [List.length_cons] at hlr2 |-; omega
                 have hlist := zhB false (u :: r) hlu hku
                 have hwords := zc2 false (u :: r) hlu hku
                 simp only [e7, cond_false, i5, cond_true, b6, zsT, if_pos h8]
                 rw [kn5 (kcF hs3 h8)]
                 simp only [cond_false]
                 unfold zm4
                 cases ho : zhK (brS false (u :: r)) with
                 | none =>
                  rw [ho] at hlist
                  obtain ⟨v, hv⟩ := hlist
                  simp only [hv, Option.bind_some, Bool.not_false, cond_true]
                  cases hw : zt (fW false) orI 0 (u :: r) with
                  | none => rw [hw] at hwords; obtain ⟨v', hv'⟩ := hwords; rw [hv']; exact ⟨_, rfl⟩
                  | some x => rw [hw] at hwords; simp only [WR] at hwords; rw [hwords]; rfl
                 | some x =>
                  rw [ho] at hlist
                  simp only [WR] at hlist
                  simp only [hlist, Option.bind_some, Bool.not_true, cond_false]
                  rfl
                ·simp only [e7, cond_false, i5, cond_true, if_neg h8]
                 rw [kn5 (kcT hs3 h8)]
                 simp only [cond_true]
                 exact ⟨_, rfl⟩
             ·cases hmo : zhb t.2.1 with
              | none => simp only [zk3, Option.bind_some, neT ht4, cond_true, if_neg ht4]; exact ⟨_, rfl⟩
              | some mb => simp only [zk3, Option.bind_some, neT ht4, cond_true, if_neg ht4]; exact ⟨_, rfl⟩
           ·simp only [e5, cond_false, i3, cond_true, tk, if_neg h7]
            rw [kn3 (kcT hs2 h7)]
            simp only [cond_true]
            refine wZ ?_
            split <;> rfl
        ·rw [if_neg (fun h : s.1 = 1 /\ m.1 = 4 => hm4 h.2), if_neg (fun h : s.1 = 1 /\ m.1 = 4 => hm4 h.2)]
         simp only [neT hm4, cond_true]
         refine wZ ?_
         split <;> rfl
      ·simp only [e3, cond_false, i1, cond_true]
       rw [kn1 (kcT hs h1)]
       simp only [cond_true]
       refine wZ ?_
       rw [if_neg (fun h : s.1 = 1 /\ zgl m = true => h1 h.1), if_neg (fun h : s.1 = 1 /\ zgl m = true => h1 h.1), if_neg (fun h : s.1 = 1 /\ m.1 = 4 => h1 h.1), if_neg (fun h : s.1 = 1 /\ m.1 = 4 => h1 h.1)]
       split
       ·rfl
       ·split
        ·rfl
        ·split <;> rfl
  ·simp only [neT h4, cond_true, tk, if_neg h4]
   exact ⟨_, rfl⟩
def zc1 (b : List UInt8) : El uS2 × Bool :=
 if 0 < run jN b /\ b[run jN b]? = some 32 then
  (match xL (b.drop (run jN b + 1)) 3000 0 with
  | .inl l => (match zia (b.take (run jN b)) l.dropLast with
   | some c => (c, true)
   | none => (zhH (b.take (run jN b)), false))
  | .inr _ => (zhH (b.take (run jN b)), false))
 else (zhH [], false)
theorem zk4 (b : List UInt8) (hb : b.length <= 2000) : wx 3000 b = some ((zc1 b).1, (zc1 b).2, ()) := by
 unfold wx
 rw [zkH 3000 b (by omega) (by omega)]
 unfold zpi zc1
 by_cases h : 0 < run jN b /\ b[run jN b]? = some 32
 ·have hlt := (List.getElem?_eq_some_iff.1 h.2).1
  rw [if_pos h, if_pos h]
  generalize run jN b = n at h hlt
  generalize b.take n = tag
  have hb1 : zW ((n + 1 : Nat) : Int) b = true := zcD (by omega)
  simp only [Option.bind_some, Bool.not_true, cond_false, hb1, Bool.and_true, cond_true, Int.toNat_natCast, zb2]
  have hdl : (b.drop (n + 1)).length <= 2000 := by rw [List.length_drop]; omega
  rw [zlP 3000 (b.drop (n + 1)) (by omega) (by omega) (by omega)]
  unfold zqM
  cases ht : xL (b.drop (n + 1)) 3000 0 with
  | inr a =>
   simp only [Option.bind_some, show decide (((a : Nat) : Int) < (0 : Int)) = false from by simp, Bool.not_false, cond_true]
   rfl
  | inl l =>
   obtain ⟨p, e, rfl, he, hk, hpl⟩ := zhA hdl 3000 0 l (by omega) ht
   simp only [Option.bind_some, show decide ((-1 : Int) < 0) = true from rfl, Bool.not_true, cond_false, List.dropLast_concat]
   cases p with
   | nil =>
    have f4 : ¬ e.1 = 4 := by omega
    simp only [List.nil_append, qA, cond_true, zI, qy, Option.bind_some, eqF f4, Bool.not_false]
    rfl
   | cons w p =>
    have hkw := hk w (List.mem_cons_self ..)
    have hkp : ∀ t ∈ p, qe t := fun t ht => hk t (List.mem_cons_of_mem _ ht)
    have hlp : p.length <= 2000 := by simp only [List.length_cons] at hpl; omega
    have hkv := zgQ w.2.1 hkw.2.1
    simp only [List.cons_append, qA, cond_true, zI, qy, Option.bind_some, zn, zmi _ hkw.2.1]
    rw [show List.drop 1 (w :: (p ++ [e])) = p ++ [e] from rfl]
    unfold zia
    by_cases h4 : w.1 = 4
    ·simp only [eqT h4, Bool.not_true, cond_false, tk, if_pos h4]
     generalize zao w.2.1 = k at hkv
     by_cases hz : k = 0
     ·simp only [show decide ((0 : Int) < k) = false from by simp; omega, Bool.not_false, cond_true, if_pos hz]
      rfl
     ·simp only [show decide ((0 : Int) < k) = true from by simp; omega, Bool.not_true, cond_false, if_neg hz]
      have hR : ∀ o : Option (El uS2), zkb tag o = some ((match o with
        | some c => (c, true)
        | none => (zhH tag, false) : El uS2 × Bool).1, (match o with
        | some c => (c, true)
        | none => (zhH tag, false) : El uS2 × Bool).2, ()) := fun o => by cases o <;> rfl
      have hB1 := zpR tag k e he p hkp
      have hB5 := zp7 tag k e he p hlp hkp
      have hB6 := zqj tag k e he p hlp hkp
      have hB7 := zqJ tag k e he p hlp hkp
      have hB8 := zpX tag k e he p hlp hkp
      rw [hR] at hB1 hB5 hB6 hB7 hB8
      by_cases hk4 : k <= 4
      ·rw [if_pos hk4, <- hB1]
       by_cases q1 : k = 1
       ·simp only [eqT q1, cond_true]
       ·by_cases q2 : k = 2
        ·simp only [eqF q1, eqT q2, cond_true, cond_false]
        ·by_cases q3 : k = 3
         ·simp only [eqF q1, eqF q2, eqT q3, cond_true, cond_false]
         ·simp only [eqF q1, eqF q2, eqF q3, eqT (show k = 4 by omega), cond_true, cond_false]
      ·rw [if_neg hk4]
       simp only [eqF (show ¬ k = 1 by omega), eqF (show ¬ k = 2 by omega), eqF (show ¬ k = 3 by omega), eqF (show ¬ k = 4 by omega), cond_false]
       by_cases h5 : k = 5
       ·simp only [eqT h5, cond_true, if_pos h5]
        exact hB5
       ·simp only [eqF h5, cond_false, if_neg h5]
        by_cases h6 : k = 6
        ·simp only [eqT h6, cond_true, if_pos h6]
         exact hB6
        ·simp only [eqF h6, cond_false, if_neg h6]
         by_cases h7 : k = 7
         ·simp only [eqT h7, cond_true, if_pos h7]
          exact hB7
         ·simp only [eqF h7, cond_false, if_neg h7, eqT (show k = 8 by omega), cond_true]
          exact hB8
    ·simp only [eqF h4, Bool.not_false, cond_true, tk, if_neg h4]
     rfl
 ·rw [if_neg h, if_neg h]
  rfl
theorem znd (b : List UInt8) (hb : b.length <= 2000) : kZ 3000 b = some ((zc1 b).1, (zc1 b).2, ()) := by
 unfold kZ
 rw [zmI 3000 b (by omega) (by omega)]
 unfold zpi zc1
 by_cases h : 0 < run jN b /\ b[run jN b]? = some 32
 ·have hlt := (List.getElem?_eq_some_iff.1 h.2).1
  rw [if_pos h, if_pos h]
  generalize run jN b = n at h hlt
  generalize b.take n = tag
  have hb1 : zW ((n + 1 : Nat) : Int) b = true := zcD (by omega)
  simp only [Option.bind_some, Bool.not_true, cond_false, hb1, Bool.and_true, cond_true, Int.toNat_natCast, zb2]
  have hdl : (b.drop (n + 1)).length <= 2000 := by rw [List.length_drop]; omega
  rw [zog 3000 (b.drop (n + 1)) (by omega) (by omega) (by omega)]
  unfold zqM
  cases ht : xL (b.drop (n + 1)) 3000 0 with
  | inr a =>
   simp only [Option.bind_some, show decide ((0 : Int) <= ((a : Nat) : Int)) = true from by simp, cond_true]
   rfl
  | inl l =>
   obtain ⟨p, e, rfl, he, hk, hpl⟩ := zhA hdl 3000 0 l (by omega) ht
   have hlen : (p ++ [e]).length = p.length + 1 := by simp
   have hw : IntKind.wrap .i64 ((((List.length (p ++ [e])) : Nat) : Int) - 1) = ((p.length : Nat) : Int) := by rw [hlen, wri (by omega) (by omega)]; omega
   have hbn := qY (a := 0) (b := p.length) (n := (p ++ [e]).length) (by omega) (by rw [hlen]; omega)
   rw [show ((0 : Nat) : Int) = (0 : Int) from rfl] at hbn
   have hsl : slice (p ++ [e]) 0 p.length = p := by rw [j7]; simp
   have hbody := zn2 tag p (by omega) hk
   simp only [Option.bind_some, show decide ((0 : Int) <= -1) = false from rfl, cond_false, List.dropLast_concat, hw, hbn, cond_true, Int.toNat_natCast, hsl]
   cases hs : zia tag p with
   | none =>
    rw [hs] at hbody
    obtain ⟨c, hc⟩ := hbody
    rw [hc]
    rfl
   | some c =>
    rw [hs] at hbody
    simp only [BR] at hbody
    rw [hbody]
    rfl
 ·rw [if_neg h, if_neg h]
  rfl
theorem kE {A : Type} {k : Int} {l : List Tok} {f : Tok -> List Tok -> Option A} {x : A} (h : tk k l f = some x) : ∃ t r, l = t :: r /\ t.1 = k /\ f t r = some x := by
 cases l with
 | nil => cases h
 | cons t r =>
  unfold tk at h
  simp only at h
  by_cases hk : t.1 = k
  ·rw [if_pos hk] at h; exact ⟨t, r, rfl, hk, h⟩
  ·rw [if_neg hk] at h; cases h
theorem zkD {A : Type} {l : List Tok} {f : Tok -> List Tok -> Option A} {x : A} (h : tkM l f = some x) : ∃ t r, l = t :: r /\ zgl t = true /\ f t r = some x := by
 cases l with
 | nil => cases h
 | cons t r =>
  unfold tkM at h
  simp only at h
  by_cases hk : zgl t = true
  ·rw [if_pos hk] at h; exact ⟨t, r, rfl, hk, h⟩
  ·rw [if_neg hk] at h; cases h
theorem zkL {A : Type} {l : List Tok} {y x : A} (h : tkE l y = some x) : l = [] /\ y = x := by
 cases l with
 | nil => cases h; exact ⟨rfl, rfl⟩
 | cons t r => cases h
theorem zfi : ∀ {l : List (List UInt8)} {o : List (Int × Int)}, jr l = some o -> o.length = l.length
 | [], o, h => by cases h; rfl
 | s :: l, o, h => by
  unfold jr at h
  cases hr : xV s with
  | none => rw [hr] at h; cases h
  | some r =>
   cases ht : jr l with
   | none => rw [hr, ht] at h; cases h
   | some t =>
    rw [hr, ht] at h
    cases h
    simp only [List.length_cons, zfi ht]
theorem zkh {s : List UInt8} {o : List (Int × Int)} (h : zkG s = some o) : 0 < o.length /\ o.length <= s.length + 1 := by
 rw [zfi h]
 exact ⟨(jI 44 s).1, (jI 44 s).2.1⟩
theorem zl8 {tag : List UInt8} {l : List Tok} {c : El uS2} (hk : ∀ t ∈ l, qe t) (h : zia tag l = some c) :
  (∃ k, 1 <= k /\ k <= 4 /\ c = cA tag k [] 0 []) \/ (∃ m, m.length <= 2000 /\ c = cA tag 5 m 0 []) \/ (∃ m r f d, m.length <= 2000 /\ zfY r = some (f, d) /\ (∀ t ∈ r, qe t) /\ c = cA tag 6 m f d)
  \/ (∃ s st r x, s.length <= 2000 /\ zkG s = some st /\ itS r = some x /\ (∀ t ∈ r, qe t) /\ c = cI tag 7 st x)
  \/ (∃ s st w r m b f, s.length <= 2000 /\ zkG s = some st /\ zhb w = some (m, b) /\ w.length <= 2000 /\ zm4 r = some f /\ (∀ t ∈ r, qe t) /\ c = cS tag 8 st m b f) := by
 unfold zia at h
 obtain ⟨w, r, rfl, h4, h⟩ := kE h
 have hkw := hk w (List.mem_cons_self ..)
 have hkr : ∀ t ∈ r, qe t := fun t ht => hk t (List.mem_cons_of_mem _ ht)
 have hkv := zgQ w.2.1 hkw.2.1
 generalize zao w.2.1 = k at h hkv
 by_cases hz : k = 0
 ·rw [if_pos hz] at h; cases h
 ·rw [if_neg hz] at h
  by_cases hk4 : k <= 4
  ·rw [if_pos hk4] at h
   obtain ⟨h1, h2⟩ := zkL h
   exact .inl ⟨k, by omega, hk4, h2.symm⟩
  ·rw [if_neg hk4] at h
   by_cases h5 : k = 5
   ·rw [if_pos h5] at h
    subst h5
    obtain ⟨s, r1, rfl, h6, h⟩ := kE h
    obtain ⟨m, r2, rfl, h7, h⟩ := zkD h
    obtain ⟨h8, h9⟩ := zkL h
    exact .inr (.inl ⟨m.2.1, (hkr m (by simp)).2.1, h9.symm⟩)
   ·rw [if_neg h5] at h
    by_cases h6 : k = 6
    ·rw [if_pos h6] at h
     subst h6
     obtain ⟨s, r1, rfl, h6, h⟩ := kE h
     obtain ⟨m, r2, rfl, h7, h⟩ := zkD h
     obtain ⟨s2, r3, rfl, h8, h⟩ := kE h
     cases ha : zfY r3 with
     | none => rw [ha] at h; cases h
     | some p =>
      rw [ha] at h
      cases h
      exact .inr (.inr (.inl ⟨m.2.1, r3, p.1, p.2, (hkr m (by simp)).2.1, ha, fun t ht => hkr t (by simp [ht]), rfl⟩))
    ·rw [if_neg h6] at h
     by_cases h7 : k = 7
     ·rw [if_pos h7] at h
      subst h7
      obtain ⟨s, r1, rfl, h6, h⟩ := kE h
      obtain ⟨t, r2, rfl, h7, h⟩ := kE h
      cases hs : zkG t.2.1 with
      | none => rw [hs] at h; cases h
      | some st =>
       rw [hs, Option.bind_some] at h
       obtain ⟨s2, r3, rfl, h8, h⟩ := kE h
       cases ha : itS r3 with
       | none => rw [ha] at h; cases h
       | some x =>
        rw [ha] at h
        cases h
        exact .inr (.inr (.inr (.inl ⟨t.2.1, st, r3, x, (hkr t (by simp)).2.1, hs, ha, fun t ht => hkr t (by simp [ht]), rfl⟩)))
     ·rw [if_neg h7] at h
      have h8 : k = 8 := by omega
      subst h8
      obtain ⟨s, r1, rfl, h6, h⟩ := kE h
      obtain ⟨t, r2, rfl, h7, h⟩ := kE h
      cases hs : zkG t.2.1 with
      | none => rw [hs] at h; cases h
      | some st =>
       rw [hs, Option.bind_some] at h
       obtain ⟨s2, r3, rfl, h8, h⟩ := kE h
       obtain ⟨w2, r4, rfl, h9, h⟩ := kE h
       cases hm : zhb w2.2.1 with
       | none => rw [hm] at h; cases h
       | some mb =>
        rw [hm, Option.bind_some] at h
        obtain ⟨s3, r5, rfl, h10, h⟩ := kE h
        cases ha : zm4 r5 with
        | none => rw [ha] at h; cases h
        | some f =>
         rw [ha] at h
         cases h
         exact .inr (.inr (.inr (.inr ⟨t.2.1, st, w2.2.1, r5, mb.1, mb.2, f, (hkr t (by simp)).2.1, hs, hm, (hkr w2 (by simp)).2.1, ha, fun t ht => hkr t (by simp [ht]), rfl⟩)))
theorem zng (b : List UInt8) (hb : b.length <= 2000) : (zc1 b).1.2.2.2.1.length <= 2001 := by
 unfold zc1
 split
 ·split
  ·rename_i l ht
   have hdl : (b.drop (run jN b + 1)).length <= 2000 := by rw [List.length_drop]; omega
   obtain ⟨p, e, rfl, he, hk, hpl⟩ := zhA hdl 3000 0 l (by omega) ht
   rw [List.dropLast_concat]
   cases hs : zia (b.take (run jN b)) p with
   | none => simp [zhH]
   | some c =>
    rcases zl8 hk hs with ⟨k, _, _, rfl⟩ | ⟨m, _, rfl⟩ | ⟨m, r, f, d, _, _, _, rfl⟩ | ⟨s, st, r, x, h1, h2, _, _, rfl⟩ | ⟨s, st, w, r, m, b, f, h1, h2, _, _, _, _, rfl⟩
    ·simp [cA]
    ·simp [cA]
    ·simp [cA]
    ·have := (zkh h2).2; simp only [cI]; omega
    ·have := (zkh h2).2; simp only [cS]; omega
  ·simp [zhH]
 ·simp [zhH]
theorem zrI (t : List UInt8) (k : Int) (m : List UInt8) (st : List (Int × Int)) (it mo : Int) (si : Bool) (fl : UInt8) (da : List UInt8) (hst : st.length <= 2001) : ∀ (n i : Nat), i <= st.length -> st.length < n + i ->
  qF 3000 n (i : Int) t k m st it mo si fl da t k m st it mo si fl da = some (.inr (t, k, m, st, it, mo, si, fl, da, t, k, m, st, it, mo, si, fl, da))
 | 0, i, h, h' => by omega
 | n + 1, i, h, h' => by
  unfold qF zai
  by_cases hi : i < st.length
  ·simp only [zhN hi, cond_true, zX hi, Int.toNat_natCast, jH (u := .pair (.int .u32) (.int .u32)) hi, beq_self_eq_true, Bool.and_true, Bool.not_true, cond_false]
   rw [wri (by omega) (by omega), show ((i : Int) + 1) = ((i + 1 : Nat) : Int) by omega]
   exact zrI t k m st it mo si fl da hst n (i + 1) (by omega) (by omega)
  ·simp only [zhM hi, cond_false]
theorem znC (c : El uS2) (h : c.2.2.2.1.length <= 2001) : kj 3000 c c = some (true, ()) := by
 obtain ⟨t, k, m, st, it, mo, si, fl, da⟩ := c
 have hL := zrI t k m st it mo si fl da h 3000 0 (by omega) (by simp only at h; omega)
 rw [show ((0 : Nat) : Int) = (0 : Int) from rfl] at hL
 unfold kj
 simp only [bne_self_eq_false, cond_false, hL, Option.bind_some, zl, beq_self_eq_true, cond_true]
def zam (N : Nat) (p0 : (Int × (List UInt8))) : Option ((El uS2) × (List UInt8) × Unit) :=
 (cond (p0.1 == (1 : Int)) (Option.bind (wx N p0.2) fun y1 => (cond y1.2.1 (some (y1.1, ([] : List UInt8), ())) (cond (p0.1 == (1 : Int)) (Option.bind (qL N p0.2) fun y2 => (some ((y2.1, ((0 : Int), (([] : List UInt8), (([] : List (Int × Int)), ((0 : Int), ((0 : Int), (false, ((0 : UInt8), ([] : List UInt8))))))))), ([115, 121, 110, 116, 97, 120, 32, 101, 114, 114, 111, 114] : List UInt8), ()))) (cond (p0.1 == (3 : Int)) (Option.bind (qL N p0.2) fun y3 => (some ((y3.1, ((0 : Int), (([] : List UInt8), (([] : List (Int × Int)), ((0 : Int), ((0 : Int), (false, ((0 : UInt8), ([] : List UInt8))))))))), ([108, 105, 110, 101, 32, 116, 111, 111, 32, 108, 111, 110, 103] : List UInt8), ()))) (cond (p0.1 == (4 : Int)) (Option.bind (qL N p0.2) fun y4 => (some ((y4.1, ((0 : Int), (([] : List UInt8), (([] : List (Int × Int)), ((0 : Int), ((0 : Int), (false, ((0 : UInt8), ([] : List UInt8))))))))), ([108, 105, 116, 101, 114, 97, 108, 32, 116, 111, 111, 32, 108, 111, 110, 103] : List UInt8), ()))) (some ((([] : List UInt8), ((0 : Int), (([] : List UInt8), (([] : List (Int × Int)), ((0 : Int), ((0 : Int), (false, ((0 : UInt8), ([] : List UInt8))))))))), ([] : List UInt8), ()))))))) (cond (p0.1 == (1 : Int)) (Option.bind (qL N p0.2) fun y5 => (some ((y5.1, ((0 : Int), (([] : List UInt8), (([] : List (Int × Int)), ((0 : Int), ((0 : Int), (false, ((0 : UInt8), ([] : List UInt8))))))))), ([115, 121, 110, 116, 97, 120, 32, 101, 114, 114, 111, 114] : List UInt8), ()))) (cond (p0.1 == (3 : Int)) (Option.bind (qL N p0.2) fun y6 => (some ((y6.1, ((0 : Int), (([] : List UInt8), (([] : List (Int × Int)), ((0 : Int), ((0 : Int), (false, ((0 : UInt8), ([] : List UInt8))))))))), ([108, 105, 110, 101, 32, 116, 111, 111, 32, 108, 111, 110, 103] : List UInt8), ()))) (cond (p0.1 == (4 : Int)) (Option.bind (qL N p0.2) fun y7 => (some ((y7.1, ((0 : Int), (([] : List UInt8), (([] : List (Int × Int)), ((0 : Int), ((0 : Int), (false, ((0 : UInt8), ([] : List UInt8))))))))), ([108, 105, 116, 101, 114, 97, 108, 32, 116, 111, 111, 32, 108, 111, 110, 103] : List UInt8), ()))) (some ((([] : List UInt8), ((0 : Int), (([] : List UInt8), (([] : List (Int × Int)), ((0 : Int), ((0 : Int), (false, ((0 : UInt8), ([] : List UInt8))))))))), ([] : List UInt8), ()))))))
def zbD (N : Nat) (p0 : (Int × (List UInt8))) : Option ((El uS2) × (List UInt8) × Unit) :=
 (cond (p0.1 == (1 : Int)) (Option.bind (kZ N p0.2) fun y1 => (cond y1.2.1 (some (y1.1, ([] : List UInt8), ())) (Option.bind (wL N p0.2) fun y2 => (cond (p0.1 == (1 : Int)) (some ((y2.1, ((0 : Int), (([] : List UInt8), (([] : List (Int × Int)), ((0 : Int), ((0 : Int), (false, ((0 : UInt8), ([] : List UInt8))))))))), ([115, 121, 110, 116, 97, 120, 32, 101, 114, 114, 111, 114] : List UInt8), ())) (cond (p0.1 == (3 : Int)) (some ((y2.1, ((0 : Int), (([] : List UInt8), (([] : List (Int × Int)), ((0 : Int), ((0 : Int), (false, ((0 : UInt8), ([] : List UInt8))))))))), ([108, 105, 110, 101, 32, 116, 111, 111, 32, 108, 111, 110, 103] : List UInt8), ())) (cond (p0.1 == (4 : Int)) (some ((y2.1, ((0 : Int), (([] : List UInt8), (([] : List (Int × Int)), ((0 : Int), ((0 : Int), (false, ((0 : UInt8), ([] : List UInt8))))))))), ([108, 105, 116, 101, 114, 97, 108, 32, 116, 111, 111, 32, 108, 111, 110, 103] : List UInt8), ())) (some ((([] : List UInt8), ((0 : Int), (([] : List UInt8), (([] : List (Int × Int)), ((0 : Int), ((0 : Int), (false, ((0 : UInt8), ([] : List UInt8))))))))), ([] : List UInt8), ())))))))) (Option.bind (wL N p0.2) fun y3 => (cond (p0.1 == (1 : Int)) (some ((y3.1, ((0 : Int), (([] : List UInt8), (([] : List (Int × Int)), ((0 : Int), ((0 : Int), (false, ((0 : UInt8), ([] : List UInt8))))))))), ([115, 121, 110, 116, 97, 120, 32, 101, 114, 114, 111, 114] : List UInt8), ())) (cond (p0.1 == (3 : Int)) (some ((y3.1, ((0 : Int), (([] : List UInt8), (([] : List (Int × Int)), ((0 : Int), ((0 : Int), (false, ((0 : UInt8), ([] : List UInt8))))))))), ([108, 105, 110, 101, 32, 116, 111, 111, 32, 108, 111, 110, 103] : List UInt8), ())) (cond (p0.1 == (4 : Int)) (some ((y3.1, ((0 : Int), (([] : List UInt8), (([] : List (Int × Int)), ((0 : Int), ((0 : Int), (false, ((0 : UInt8), ([] : List UInt8))))))))), ([108, 105, 116, 101, 114, 97, 108, 32, 116, 111, 111, 32, 108, 111, 110, 103] : List UInt8), ())) (some ((([] : List UInt8), ((0 : Int), (([] : List UInt8), (([] : List (Int × Int)), ((0 : Int), ((0 : Int), (false, ((0 : UInt8), ([] : List UInt8))))))))), ([] : List UInt8), ())))))))
def zV (N : Nat) (p0 : Int) (p1 : (List UInt8)) : Option (Bool × Unit) :=
 (cond (decide ((2000 : Int) < (((List.length p1) : Nat) : Int))) (Option.bind (some (true, ())) fun y1 => (some (y1.1, ()))) (Option.bind (zam N (p0, p1)) fun y2 => (Option.bind (zbD N (p0, p1)) fun y3 => (Option.bind (some (true, ())) fun y4 => (cond y4.1 (Option.bind (kj N y2.1 y3.1) fun y5 => (cond y5.1 (some ((y2.2.1 == y3.2.1), ())) (some (false, ())))) (some (false, ())))))))
theorem zm6 (b : List UInt8) : ∃ t n o, zpi b = some (t, n, o, ()) := by
 unfold zpi
 split <;> exact ⟨_, _, _, rfl⟩
theorem zub (k : Int) (b : List UInt8) : zV 3000 k b = some (true, ()) := by
 unfold zV
 by_cases h : (2000 : Int) < (((List.length b) : Nat) : Int)
 ·rw [decide_eq_true h]; rfl
 ·rw [decide_eq_false h, cond_false]
  have hb : b.length <= 2000 := by omega
  obtain ⟨t, n, o, ht⟩ := zm6 b
  have hs := zng b hb
  unfold zam zbD
  simp only [zk4 b hb, znd b hb, zkH 3000 b (by omega) (by omega), zmI 3000 b (by omega) (by omega), ht, Option.bind_some]
  have key : ∀ (c : El uS2) (m : List UInt8), c.2.2.2.1.length <= 2001 -> (Option.bind (kj 3000 c c) fun y5 => (cond y5.1 (some ((m == m), ())) (some (false, ())))) = some (true, ()) := fun c m hc => by
   rw [znC c hc]; simp
  cases k == (1 : Int) with
  | true =>
   simp only [cond_true]
   cases (zc1 b).2 with
   | true => simp only [cond_true, Option.bind_some]; exact key _ _ hs
   | false => simp only [cond_false, Option.bind_some, cond_true]; exact key _ _ (by simp)
  | false =>
   simp only [cond_false]
   cases k == (3 : Int) with
   | true => simp only [cond_true, Option.bind_some]; exact key _ _ (by simp)
   | false =>
    simp only [cond_false]
    cases k == (4 : Int) with
    | true => simp only [cond_true, Option.bind_some]; exact key _ _ (by simp)
    | false => simp only [cond_false, cond_true, Option.bind_some]; exact key _ _ (by simp)
theorem law (x : El (zbm [.int .i64, .sl .u8])) (hw : Wf (zbm [.int .i64, .sl .u8]) x) : ∃ N, zV N x.1 x.2.1 = some (true, ()) := ⟨3000, zub x.1 x.2.1⟩
end Go.Proofs.Model
