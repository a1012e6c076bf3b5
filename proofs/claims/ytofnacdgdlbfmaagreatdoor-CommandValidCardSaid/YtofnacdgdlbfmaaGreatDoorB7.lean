/- The machines and the plain laws, part 7. -/
import Derived.Test.YtofnacdgdlbfmaaGreatDoorB6
set_option linter.unusedVariables false
set_option linter.unusedSimpArgs false
set_option maxRecDepth 100000
namespace Go.Proofs.Model
open Go Go.Gx Go.Mx Go.Sx
def itS : List Tok -> Option Int
 | [] => none
 | [w] => if w.1 = 4 then (fW true w.2.1).map (orI 0) else none
 | a :: b :: r => zmG (brS true (a :: b :: r))
theorem zmF (x : Int) (q : List Tok) : zmG (some (x, q)) = tkE q x := by cases q <;> rfl
theorem zou (a : Tok) (h2 : a.1 = 2) (r : List Tok) : itS (a :: r) = match ze3 r with
  | none => none
  | some (p, q) => (zC (fW true) orI 0 p).bind fun x => tkE q x := by
 cases r with
 | nil =>
  have h4 : ¬ a.1 = 4 := by omega
  simp only [itS, if_neg h4, ze3]
 | cons b r =>
  unfold itS brS
  simp only [if_pos h2]
  cases hc : ze3 (b :: r) with
  | none => rfl
  | some pq =>
   obtain ⟨p, q⟩ := pq
   cases p with
   | nil => rfl
   | cons t p =>
    simp only
    cases zC (fW true) orI 0 (t :: p) with
    | none => rfl
    | some x => simp only [Option.map_some, Option.bind_some, zmF]
theorem zpf (tag : List UInt8) (kd : Int) (st : List (Int × Int)) (e : Tok) (he : e.1 = 0) (r : List Tok) (hl : r.length <= 2000) (hk : ∀ t ∈ r, qG t) : D7 3000 tag kd st (r ++ [e]) = zjh tag ((itS r).map fun x => cI tag kd st x) := by
 have f2 : ¬ e.1 = 2 := by omega
 have f4 : ¬ e.1 = 4 := by omega
 have f3 : ¬ e.1 = 3 := by omega
 cases r with
 | nil =>
  simp only [List.nil_append]
  unfold D7
  simp only [qy, cond_true, zH, qx, Option.bind_some, zp, zk, Bool.and_true, Bool.not_false, neT f2, eqF f4]
  rfl
 | cons a r =>
  have hkr : ∀ t ∈ r, qG t := fun t ht => hk t (List.mem_cons_of_mem _ ht)
  by_cases h2 : a.1 = 2
  ·rw [zou a h2 r]
   cases hc : ze3 r with
   | none =>
    have hn := zcs hc
    have hl144 := zer tag kd st 0 e [] (.inl he) r 0 3000 (fun t ht => ⟨hkr t ht, hn t ht⟩) (by simp only [List.length_cons] at hl; omega)
    have : ∃ y, zv 3000 3000 (r ++ [e]) tag kd st 0 0 = some (.inl y) := by
     cases hw : zC (fW true) orI 0 r with
     | none => rw [hw] at hl144; exact hl144
     | some x => rw [hw] at hl144; exact hl144.2 f3
    obtain ⟨y, hy⟩ := this
    simp only [List.cons_append]
    unfold D7
    simp only [qy, cond_true, cond_false, zH, qx, Option.bind_some, zp, zk, Bool.and_true, Bool.not_true, neF h2, eqT h2, hy, zm]
    rfl
   | some pq =>
    obtain ⟨p, q⟩ := pq
    obtain ⟨z, z1, z2, z3⟩ := xS hc
    subst z2
    have hkq : ∀ t ∈ q, qG t := fun t ht => hkr t (List.mem_append_right _ (List.mem_cons_of_mem _ ht))
    rw [show (a :: (p ++ z :: q)) ++ [e] = a :: (p ++ z :: (q ++ [e])) from by simp]
    have hl144 := zer tag kd st 0 z (q ++ [e]) (.inr z1) p 0 3000 (fun u hu => ⟨hkr u (List.mem_append_left _ hu), z3 u hu⟩) (by simp only [List.length_cons, List.length_append] at hl |-; omega)
    unfold D7
    cases hw : zC (fW true) orI 0 p with
    | none =>
     rw [hw] at hl144
     obtain ⟨y, hy⟩ := hl144
     simp only [qy, cond_true, cond_false, zH, qx, Option.bind_some, zp, zk, Bool.and_true, Bool.not_true, neF h2, eqT h2, hy, zm, hw, Option.bind_none]
     rfl
    | some x =>
     rw [hw] at hl144
     have hy := hl144.1 z1
     cases q with
     | nil =>
      simp only [List.nil_append] at hy
      simp only [qy, cond_true, cond_false, zH, qx, Option.bind_some, zp, zk, Bool.and_true, Bool.not_true, List.nil_append, neF h2, eqT h2, hy, zm, hw, eqT z1, eqT he]
      rfl
     | cons t q =>
      have h0 : ¬ t.1 = 0 := by have := (hkq t (List.mem_cons_self ..)).1; omega
      simp only [List.cons_append] at hy
      simp only [qy, cond_true, cond_false, zH, qx, Option.bind_some, zp, zk, Bool.and_true, Bool.not_true, Bool.not_false, List.cons_append, neF h2, eqT h2, hy, zm, hw, eqT z1, eqF h0]
      rfl
  ·have hka := hk a (List.mem_cons_self ..)
   have hi := zd3 _ hka.2.1
   simp only [List.cons_append]
   unfold D7
   by_cases h4 : a.1 = 4
   ·by_cases h0 : xi a.2.1 = 0
    ·have hd : decide (0 < xi a.2.1) = false := by simp; omega
     have hs : itS (a :: r) = none := by
      cases r with
      | nil => simp only [itS, if_pos h4, zgw h0, Option.map_none]
      | cons b r => simp only [itS, brS, if_neg h2, zmG]
     simp only [qy, cond_true, cond_false, zH, qx, Option.bind_some, zp, zk, Bool.and_true, Bool.not_true, Bool.not_false, neT h2, eqT h4, zaQ _ hka.2.1, hd, hs]
     rfl
    ·have hd : decide (0 < xi a.2.1) = true := by simp; omega
     cases r with
     | nil =>
      simp only [qy, cond_true, cond_false, zH, qx, Option.bind_some, zp, zk, Bool.and_true, Bool.not_true, List.nil_append, neT h2, eqT h4, zaQ _ hka.2.1, hd, itS, if_pos h4, zgj h0, Option.map_some, eqT he]
      rfl
     | cons b r =>
      have hb0 : ¬ b.1 = 0 := by have := (hkr b (List.mem_cons_self ..)).1; omega
      have hs : itS (a :: b :: r) = none := by simp only [itS, brS, if_neg h2, zmG]
      simp only [qy, cond_true, cond_false, zH, qx, Option.bind_some, zp, zk, Bool.and_true, Bool.not_true, Bool.not_false, List.cons_append, neT h2, eqT h4, zaQ _ hka.2.1, hd, hs, eqF hb0]
      rfl
   ·have hs : itS (a :: r) = none := by
     cases r with
     | nil => simp only [itS, if_neg h4]
     | cons b r => simp only [itS, brS, if_neg h2, zmG]
    simp only [qy, cond_true, zH, qx, Option.bind_some, zp, zk, Bool.and_true, Bool.not_false, neT h2, eqF h4, hs]
    rfl
theorem zkv (tag : List UInt8) (kd : Int) (st : List (Int × Int)) (md : Int) (sl : Bool) (f : UInt8) (e : Tok) (he : e.1 = 0) (z : Tok) (hz : z.1 = 3) (q : List Tok) (hk : ∀ t ∈ q, qG t) : G8 3000 tag tag kd st md sl f (z :: (q ++ [e])) = zjh tag (tkE q (cS tag kd st md sl f)) := by
 unfold G8
 cases q with
 | nil => simp only [qy, cond_true, cond_false, zH, qx, Option.bind_some, zp, zk, Bool.and_true, Bool.not_true, List.nil_append, eqT hz, eqT he]; rfl
 | cons t q =>
  have h0 : ¬ t.1 = 0 := by have := (hk t (List.mem_cons_self ..)).1; omega
  simp only [qy, cond_true, cond_false, zH, qx, Option.bind_some, zp, zk, Bool.and_true, Bool.not_true, Bool.not_false, List.cons_append, eqT hz, eqF h0]; rfl
def zlG (r : List Tok) : Option UInt8 := (match zmG (brS false r) with
 | some x => some x
 | none => zC (fW false) orI 0 r).map zao
theorem zkW (a : Tok) (h2 : a.1 = 2) (r : List Tok) : zlG (a :: r) = match ze3 r with
  | none => none
  | some ([], q) => tkE q 0
  | some (t :: p, q) => (zC (fW false) orI 0 (t :: p)).bind fun x => tkE q (zao x) := by
 have h4 : ¬ a.1 = 4 := by omega
 have hw : zC (fW false) orI 0 (a :: r) = none := by
  cases r with
  | nil => simp only [zC, if_neg h4]
  | cons b r => simp only [zC, if_neg h4]
 unfold zlG
 rw [hw]
 simp only [brS, if_pos h2]
 cases hc : ze3 r with
 | none => rfl
 | some pq =>
  obtain ⟨p, q⟩ := pq
  cases p with
  | nil => cases q <;> rfl
  | cons t p =>
   simp only
   cases zC (fW false) orI 0 (t :: p) with
   | none => rfl
   | some x => cases q <;> rfl
theorem zlx (r : List Tok) (h : brS false r = none) : zlG r = (zC (fW false) orI 0 r).map zao := by
 unfold zlG
 rw [h]; rfl
theorem ziY (tag : List UInt8) (kd : Int) (st : List (Int × Int)) (md : Int) (sl : Bool) (e : Tok) (he : e.1 = 0) (r : List Tok) (hl : r.length <= 2000) (hk : ∀ t ∈ r, qG t) (hb : brS false r = none) (t : Tok) (r' : List Tok) (hr : r ++ [e] = t :: r') (h2 : ¬ t.1 = 2) : D8 3000 tag kd st md sl (r ++ [e]) = zjh tag ((zlG r).map fun f => cS tag kd st md sl f) := by
 rw [zlx r hb]
 have h206 := zgT tag kd st md sl e [] (.inl he) r 0 3000 (fun u hu => ⟨hk u hu, by have := (hk u hu).1; omega⟩) (by omega)
 obtain ⟨o, o1, o2, o3⟩ := zi8 r 0 (by omega)
 rw [show UInt8.ofNat 0 = (0 : UInt8) from rfl] at o3
 rw [show ((0 : Nat) : Int) = (0 : Int) from rfl] at o2
 rw [hr] at h206 |-
 unfold D8
 cases o with
 | none =>
  rw [o3] at h206
  simp only [Option.map_none] at h206
  obtain ⟨y, hy⟩ := h206
  simp only [qy, cond_true, cond_false, zH, qx, Option.bind_some, zp, zk, Bool.and_true, Bool.not_false, eqF h2, hy, zm, o2, Option.map_none]
  rfl
 | some n =>
  rw [o3] at h206
  simp only [Option.map_some] at h206
  have hy := h206.1 he
  have hn := o1 n rfl
  simp only [qy, cond_true, cond_false, zH, qx, Option.bind_some, zp, zk, Bool.and_true, Bool.not_true, Bool.not_false, eqF h2, hy, zm, o2, Option.map_some, eqT he, jl (show n < 256 by omega)]
  rfl
theorem zo1 (tag : List UInt8) (kd : Int) (st : List (Int × Int)) (md : Int) (sl : Bool) (e : Tok) (he : e.1 = 0) (r : List Tok) (hl : r.length <= 2000) (hk : ∀ t ∈ r, qG t) : D8 3000 tag kd st md sl (r ++ [e]) = zjh tag ((zlG r).map fun f => cS tag kd st md sl f) := by
 have f2 : ¬ e.1 = 2 := by omega
 have f3 : ¬ e.1 = 3 := by omega
 cases r with
 | nil => exact ziY tag kd st md sl e he [] (by simp) (fun _ h => by cases h) rfl e [] rfl f2
 | cons a r =>
  have hkr : ∀ t ∈ r, qG t := fun t ht => hk t (List.mem_cons_of_mem _ ht)
  by_cases h2 : a.1 = 2
  ·rw [zkW a h2 r]
   cases hc : ze3 r with
   | none =>
    have hn := zcs hc
    have hl179 := zeg tag kd st md sl e [] (.inl he) r 0 3000 (fun t ht => ⟨hkr t ht, hn t ht⟩) (by simp only [List.length_cons] at hl; omega)
    have : ∃ y, zt 3000 3000 (r ++ [e]) tag kd st md sl 0 = some (.inl y) := by
     cases hw : zC fP orP 0 r with
     | none => rw [hw] at hl179; exact hl179
     | some x => rw [hw] at hl179; exact hl179.2 f3
    obtain ⟨y, hy⟩ := this
    obtain ⟨t, r', hr, ht⟩ := zi3 r e
    have ht3 : ¬ t.1 = 3 := by
     rcases ht with rfl | ht
     ·exact f3
     ·exact hn t ht
    simp only [List.cons_append]
    rw [hr] at hy |-
    unfold D8
    simp only [qy, cond_true, cond_false, zH, qx, Option.bind_some, zp, zk, Bool.and_true, Bool.not_true, eqT h2, neT ht3, hy, zm]
    rfl
   | some pq =>
    obtain ⟨p, q⟩ := pq
    obtain ⟨z, z1, z2, z3⟩ := xS hc
    subst z2
    have hkq : ∀ t ∈ q, qG t := fun t ht => hkr t (List.mem_append_right _ (List.mem_cons_of_mem _ ht))
    rw [show (a :: (p ++ z :: q)) ++ [e] = a :: (p ++ z :: (q ++ [e])) from by simp]
    cases p with
    | nil =>
     unfold D8
     simp only [qy, cond_true, cond_false, zH, qx, Option.bind_some, zp, zk, Bool.and_true, Bool.not_true, List.nil_append, eqT h2, neF z1, zkv tag kd st md sl _ e he z z1 q hkq]
     cases q <;> rfl
    | cons t p =>
     have hl179 := zeg tag kd st md sl z (q ++ [e]) (.inr z1) (t :: p) 0 3000 (fun u hu => ⟨hkr u (List.mem_append_left _ hu), z3 u hu⟩) (by simp only [List.length_cons, List.length_append] at hl |-; omega)
     obtain ⟨o, o1, o2, o3⟩ := zi8 (t :: p) 0 (by omega)
     rw [show UInt8.ofNat 0 = (0 : UInt8) from rfl] at o3
     rw [show ((0 : Nat) : Int) = (0 : Int) from rfl] at o2
     have ht3 := z3 t (List.mem_cons_self ..)
     unfold D8
     cases o with
     | none =>
      rw [o3] at hl179
      simp only [Option.map_none, List.cons_append] at hl179
      obtain ⟨y, hy⟩ := hl179
      simp only [qy, cond_true, cond_false, zH, qx, Option.bind_some, zp, zk, Bool.and_true, Bool.not_true, List.cons_append, eqT h2, neT ht3, hy, zm, o2, Option.map_none, Option.bind_none]
      rfl
     | some n =>
      rw [o3] at hl179
      simp only [Option.map_some, List.cons_append] at hl179
      have hy := hl179.1 z1
      have hn := o1 n rfl
      simp only [qy, cond_true, cond_false, zH, qx, Option.bind_some, zp, zk, Bool.and_true, Bool.not_true, List.cons_append, eqT h2, neT ht3, hy, zm, o2, Option.map_some, zkv tag kd st md sl _ e he z z1 q hkq, jl (show n < 256 by omega)]
      cases q <;> rfl
  ·exact ziY tag kd st md sl e he (a :: r) hl hk (by simp only [brS, if_neg h2]) a (r ++ [e]) rfl h2
def zms (s : List UInt8) : Option (List (Int × Int)) := wO (jB 44 s)
theorem zhv (s : List UInt8) (hs : s.length <= 2000) : qW 3000 s = some (match zms s with
  | some l => (l, true, ())
  | none => ([], false, ())) := zm5 s hs
def SB7 (tag : List UInt8) (kd : Int) (r : List Tok) : Option (El uS2) := tk 1 r fun _ r => tk 4 r fun t r => (zms t.2.1).bind fun st => tk 1 r fun _ r => (itS r).map fun x => cI tag kd st x
def SB8 (tag : List UInt8) (kd : Int) (r : List Tok) : Option (El uS2) := tk 1 r fun _ r => tk 4 r fun t r => (zms t.2.1).bind fun st => tk 1 r fun _ r => tk 4 r fun w r => (zkq w.2.1).bind fun mb => tk 1 r fun _ r => (zlG r).map fun f => cS tag kd st mb.1 mb.2 f
theorem zpe (tag : List UInt8) (kd : Int) (e : Tok) (he : e.1 = 0) (r : List Tok) (hl : r.length <= 2000) (hk : ∀ t ∈ r, qG t) : B7 3000 tag kd (r ++ [e]) = zjh tag (SB7 tag kd r) := by
 have f1 : ¬ e.1 = 1 := by omega
 have f4 : ¬ e.1 = 4 := by omega
 unfold SB7
 cases r with
 | nil =>
  simp only [List.nil_append]
  unfold B7
  simp only [qy, cond_true, zH, qx, Option.bind_some, zp, zk, Bool.and_true, Bool.not_false, eqF f1]
  rfl
 | cons s r =>
  simp only [List.cons_append]
  unfold B7
  by_cases h1 : s.1 = 1
  ·cases r with
   | nil =>
    simp only [qy, cond_true, cond_false, zH, qx, Option.bind_some, zp, zk, Bool.and_true, Bool.not_true, Bool.not_false, List.nil_append, eqT h1, eqF f4, tk, if_pos h1]
    rfl
   | cons t r =>
    have hkt := hk t (by simp)
    by_cases h4 : t.1 = 4
    ·have hset := zhv t.2.1 hkt.2.1
     cases hs : zms t.2.1 with
     | none =>
      rw [hs] at hset
      simp only [qy, cond_true, cond_false, zH, qx, Option.bind_some, zp, zk, Bool.and_true, Bool.not_true, Bool.not_false, List.cons_append, eqT h1, eqT h4, hset, tk, if_pos h1, if_pos h4, hs, Option.bind_none]
      rfl
     | some st =>
      rw [hs] at hset
      cases r with
      | nil =>
       simp only [qy, cond_true, cond_false, zH, qx, Option.bind_some, zp, zk, Bool.and_true, Bool.not_true, Bool.not_false, List.cons_append, List.nil_append, eqT h1, eqT h4, hset, eqF f1, tk, if_pos h1, if_pos h4, hs]
       rfl
      | cons s2 r =>
       have hkr : ∀ t ∈ r, qG t := fun u hu => hk u (List.mem_cons_of_mem _ (List.mem_cons_of_mem _ (List.mem_cons_of_mem _ hu)))
       have hlr : r.length <= 2000 := by simp only [List.length_cons] at hl; omega
       by_cases h5 : s2.1 = 1
       ·simp only [qy, cond_true, cond_false, zH, qx, Option.bind_some, zp, zk, Bool.and_true, Bool.not_true, List.cons_append, eqT h1, eqT h4, hset, eqT h5, tk, if_pos h1, if_pos h4, hs, if_pos h5]
        exact zpf tag kd st e he r hlr hkr
       ·simp only [qy, cond_true, cond_false, zH, qx, Option.bind_some, zp, zk, Bool.and_true, Bool.not_true, Bool.not_false, List.cons_append, eqT h1, eqT h4, hset, eqF h5, tk, if_pos h1, if_pos h4, hs, if_neg h5]
        rfl
    ·simp only [qy, cond_true, cond_false, zH, qx, Option.bind_some, zp, zk, Bool.and_true, Bool.not_true, Bool.not_false, List.cons_append, eqT h1, eqF h4, tk, if_pos h1, if_neg h4]
     rfl
  ·simp only [qy, cond_true, zH, qx, Option.bind_some, zp, zk, Bool.and_true, Bool.not_false, eqF h1, tk, if_neg h1]
   rfl
theorem zo4 (tag : List UInt8) (kd : Int) (e : Tok) (he : e.1 = 0) (r : List Tok) (hl : r.length <= 2000) (hk : ∀ t ∈ r, qG t) : B8 3000 tag kd (r ++ [e]) = zjh tag (SB8 tag kd r) := by
 have f1 : ¬ e.1 = 1 := by omega
 have f4 : ¬ e.1 = 4 := by omega
 unfold SB8
 cases r with
 | nil =>
  simp only [List.nil_append]
  unfold B8
  simp only [qy, cond_true, zH, qx, Option.bind_some, zp, zk, Bool.and_true, Bool.not_false, eqF f1]
  rfl
 | cons s r =>
  simp only [List.cons_append]
  unfold B8
  by_cases h1 : s.1 = 1
  ·cases r with
   | nil =>
    simp only [qy, cond_true, cond_false, zH, qx, Option.bind_some, zp, zk, Bool.and_true, Bool.not_true, Bool.not_false, List.nil_append, eqT h1, eqF f4, tk, if_pos h1]
    rfl
   | cons t r =>
    have hkt := hk t (by simp)
    by_cases h4 : t.1 = 4
    ·have hset := zhv t.2.1 hkt.2.1
     cases hs : zms t.2.1 with
     | none =>
      rw [hs] at hset
      simp only [qy, cond_true, cond_false, zH, qx, Option.bind_some, zp, zk, Bool.and_true, Bool.not_true, Bool.not_false, List.cons_append, eqT h1, eqT h4, hset, tk, if_pos h1, if_pos h4, hs, Option.bind_none]
      rfl
     | some st =>
      rw [hs] at hset
      cases r with
      | nil =>
       simp only [qy, cond_true, cond_false, zH, qx, Option.bind_some, zp, zk, Bool.and_true, Bool.not_true, Bool.not_false, List.cons_append, List.nil_append, eqT h1, eqT h4, hset, eqF f1, tk, if_pos h1, if_pos h4, hs]
       rfl
      | cons s2 r =>
       have hkr : ∀ t ∈ r, qG t := fun u hu => hk u (List.mem_cons_of_mem _ (List.mem_cons_of_mem _ (List.mem_cons_of_mem _ hu)))
       have hlr : r.length <= 2000 := by simp only [List.length_cons] at hl; omega
       by_cases h5 : s2.1 = 1
       ·simp only [qy, cond_true, cond_false, zH, qx, Option.bind_some, zp, zk, Bool.and_true, Bool.not_true, List.cons_append, eqT h1, eqT h4, hset, eqT h5, tk, if_pos h1, if_pos h4, hs, if_pos h5]
        cases r with
        | nil =>
         simp only [qy, cond_true, qx, zp, zk, Bool.not_false, List.nil_append, eqF f4]
         rfl
        | cons w r =>
         have hkw := hkr w (by simp)
         by_cases h6 : w.1 = 4
         ·have hup := za6 w.2.1 hkw.2.1
          obtain ⟨u, b, i, hcut, hix, hmo⟩ := zkT (w.2.1.map up) (by rw [List.length_map]; exact hkw.2.1)
          have hmS : zkq w.2.1 = zke (w.2.1.map up) := rfl
          cases hm : zke (w.2.1.map up) with
          | none =>
           rw [hm] at hmo
           simp only at hmo
           have hd : decide ((0 : Int) <= i) = false := by rw [hmo]; rfl
           simp only [qy, cond_true, cond_false, qx, Option.bind_some, zp, zk, Bool.not_true, Bool.not_false, List.cons_append, eqT h6, hup, hcut, hix, hd, if_pos h6, hmS, hm, Option.bind_none]
           rfl
          | some mb =>
           obtain ⟨m, b'⟩ := mb
           rw [hm] at hmo
           obtain ⟨hm1, hm2, hm3⟩ := hmo
           subst hm1 hm2
           have hd : decide ((0 : Int) <= i) = true := by simpa using hm3
           cases r with
           | nil =>
            simp only [qy, cond_true, cond_false, qx, Option.bind_some, zp, zk, Bool.not_true, Bool.not_false, List.cons_append, List.nil_append, eqT h6, hup, hcut, hix, hd, if_pos h6, hmS, hm, eqF f1]
            rfl
           | cons s3 r =>
            by_cases h7 : s3.1 = 1
            ·simp only [qy, cond_true, cond_false, qx, Option.bind_some, zp, zk, Bool.not_true, List.cons_append, eqT h6, hup, hcut, hix, hd, if_pos h6, hmS, hm, eqT h7, if_pos h7]
             exact zo1 tag kd st i b' e he r (by simp only [List.length_cons] at hlr; omega) (fun u hu => hkr u (List.mem_cons_of_mem _ (List.mem_cons_of_mem _ hu)))
            ·simp only [qy, cond_true, cond_false, qx, Option.bind_some, zp, zk, Bool.not_true, Bool.not_false, List.cons_append, eqT h6, hup, hcut, hix, hd, if_pos h6, hmS, hm, eqF h7, if_neg h7]
             rfl
         ·simp only [qy, cond_true, qx, zp, zk, Bool.not_false, List.cons_append, eqF h6, if_neg h6]
          rfl
       ·simp only [qy, cond_true, cond_false, zH, qx, Option.bind_some, zp, zk, Bool.and_true, Bool.not_true, Bool.not_false, List.cons_append, eqT h1, eqT h4, hset, eqF h5, tk, if_pos h1, if_pos h4, hs, if_neg h5]
        rfl
    ·simp only [qy, cond_true, cond_false, zH, qx, Option.bind_some, zp, zk, Bool.and_true, Bool.not_true, Bool.not_false, List.cons_append, eqT h1, eqF h4, tk, if_pos h1, if_neg h4]
     rfl
  ·simp only [qy, cond_true, zH, qx, Option.bind_some, zp, zk, Bool.and_true, Bool.not_false, eqF h1, tk, if_neg h1]
   rfl
def SB5 (tag : List UInt8) (kd : Int) (r : List Tok) : Option (El uS2) := tk 1 r fun _ r => tkM r fun m r => tkE r (cA tag kd m.2.1 0 [])
def SB6 (tag : List UInt8) (kd : Int) (r : List Tok) : Option (El uS2) := tk 1 r fun _ r => tkM r fun m r => tk 1 r fun _ r => (ziD r).map fun p => cA tag kd m.2.1 p.1 p.2
def zjJ (tag : List UInt8) (r : List Tok) : Option (El uS2) := tk 4 r fun w r =>
 if zaz w.2.1 = 0 then none
 else if zaz w.2.1 <= 4 then tkE r (cA tag (zaz w.2.1) [] 0 [])
 else if zaz w.2.1 = 5 then SB5 tag (zaz w.2.1) r
 else if zaz w.2.1 = 6 then SB6 tag (zaz w.2.1) r
 else if zaz w.2.1 = 7 then SB7 tag (zaz w.2.1) r
 else SB8 tag (zaz w.2.1) r
theorem znD {α : Type} {l : List α} {n : Nat} (h : l.length ≠ n) : ((((List.length l) : Nat) : Int) == ((n : Nat) : Int)) = false := by simp; omega
def zbS (b : List UInt8) : El uS2 × Bool :=
 if 0 < run qA b /\ b[run qA b]? = some 32 then
  (match zaZ (b.drop (run qA b + 1)) 3000 0 with
  | .inl l => (match zjJ (b.take (run qA b)) l.dropLast with
   | some c => (c, true)
   | none => (zfN (b.take (run qA b)), false))
  | .inr _ => (zfN (b.take (run qA b)), false))
 else (zfN [], false)
theorem zj3 (b : List UInt8) (hb : b.length <= 2000) : jL 3000 b = some ((zbS b).1, (zbS b).2, ()) := by
 unfold jL
 rw [znh 3000 b (by omega) (by omega)]
 unfold zq6 zbS
 by_cases h : 0 < run qA b /\ b[run qA b]? = some 32
 ·have hlt := (List.getElem?_eq_some_iff.1 h.2).1
  rw [if_pos h, if_pos h]
  generalize run qA b = n at h hlt
  generalize b.take n = tag
  have hb1 : qc ((n + 1 : Nat) : Int) b = true := zin (by omega)
  simp only [Option.bind_some, Bool.not_true, cond_false, hb1, Bool.and_true, cond_true, Int.toNat_natCast, zge]
  have hdl : (b.drop (n + 1)).length <= 2000 := by rw [List.length_drop]; omega
  rw [zlO 3000 (b.drop (n + 1)) (by omega) (by omega) (by omega)]
  unfold zqN
  cases ht : zaZ (b.drop (n + 1)) 3000 0 with
  | inr a =>
   simp only [Option.bind_some, show decide (((a : Nat) : Int) < (0 : Int)) = false from by simp, Bool.not_false, cond_true]
   rfl
  | inl l =>
   obtain ⟨p, e, rfl, he, hk, hpl⟩ := zf0 hdl 3000 0 l (by omega) ht
   simp only [Option.bind_some, show decide ((-1 : Int) < 0) = true from rfl, Bool.not_true, cond_false, List.dropLast_concat]
   cases p with
   | nil =>
    have f4 : ¬ e.1 = 4 := by omega
    simp only [List.nil_append, qy, cond_true, zH, qx, Option.bind_some, eqF f4, Bool.not_false]
    rfl
   | cons w p =>
    have hkw := hk w (List.mem_cons_self ..)
    have hkp : ∀ t ∈ p, qG t := fun t ht => hk t (List.mem_cons_of_mem _ ht)
    have hlp : p.length <= 2000 := by simp only [List.length_cons] at hpl; omega
    have hkv := zi9 w.2.1 hkw.2.1
    simp only [List.cons_append, qy, cond_true, zH, qx, Option.bind_some, zk, zlh _ hkw.2.1]
    rw [show List.drop 1 (w :: (p ++ [e])) = p ++ [e] from rfl]
    unfold zjJ
    by_cases h4 : w.1 = 4
    ·simp only [eqT h4, Bool.not_true, cond_false, tk, if_pos h4]
     generalize zaz w.2.1 = k at hkv
     by_cases hz : k = 0
     ·simp only [show decide ((0 : Int) < k) = false from by simp; omega, Bool.not_false, cond_true, if_pos hz]
      rfl
     ·simp only [show decide ((0 : Int) < k) = true from by simp; omega, Bool.not_true, cond_false, if_neg hz]
      have hR : ∀ o : Option (El uS2), zjh tag o = some ((match o with
        | some c => (c, true)
        | none => (zfN tag, false) : El uS2 × Bool).1, (match o with
        | some c => (c, true)
        | none => (zfN tag, false) : El uS2 × Bool).2, ()) := fun o => by cases o <;> rfl
      have hB1 := zoX tag k e he p hkp
      have hB5 := zoH tag k e he p hlp hkp
      have hB6 := zok tag k e he p hlp hkp
      have hB7 := zpe tag k e he p hlp hkp
      have hB8 := zo4 tag k e he p hlp hkp
      rw [hR] at hB1 hB5 hB6 hB7 hB8
      by_cases hk4 : k <= 4
      ·rw [if_pos hk4, <- hB1]
       by_cases q1 : k = 1
       ·simp only [eqT q1, cond_true]
       ·by_cases q2 : k = 2
        ·simp only [eqF q1, eqT q2, cond_true, cond_false]
        ·by_cases q3 : k = 3
         ·simp only [eqF q1, eqF q2, eqT q3, cond_true, cond_false]
         ·simp only [eqF q1, eqF q2, eqF q3, eqT (show k = 4 by omega), cond_true, cond_false]
      ·rw [if_neg hk4]
       simp only [eqF (show ¬ k = 1 by omega), eqF (show ¬ k = 2 by omega), eqF (show ¬ k = 3 by omega), eqF (show ¬ k = 4 by omega), cond_false]
       by_cases h5 : k = 5
       ·simp only [eqT h5, cond_true, if_pos h5]
        exact hB5
       ·simp only [eqF h5, cond_false, if_neg h5]
        by_cases h6 : k = 6
        ·simp only [eqT h6, cond_true, if_pos h6]
         exact hB6
        ·simp only [eqF h6, cond_false, if_neg h6]
         by_cases h7 : k = 7
         ·simp only [eqT h7, cond_true, if_pos h7]
          exact hB7
         ·simp only [eqF h7, cond_false, if_neg h7, eqT (show k = 8 by omega), cond_true]
          exact hB8
    ·simp only [eqF h4, Bool.not_false, cond_true, tk, if_neg h4]
     rfl
 ·rw [if_neg h, if_neg h]
  rfl
theorem wK {A : Type} {k : Int} {l : List Tok} {f : Tok -> List Tok -> Option A} {x : A} (h : tk k l f = some x) : ∃ t r, l = t :: r /\ t.1 = k /\ f t r = some x := by
 cases l with
 | nil => cases h
 | cons t r =>
  unfold tk at h
  simp only at h
  by_cases hk : t.1 = k
  ·rw [if_pos hk] at h; exact ⟨t, r, rfl, hk, h⟩
  ·rw [if_neg hk] at h; cases h
theorem zi4 {A : Type} {l : List Tok} {f : Tok -> List Tok -> Option A} {x : A} (h : tkM l f = some x) : ∃ t r, l = t :: r /\ zkX t = true /\ f t r = some x := by
 cases l with
 | nil => cases h
 | cons t r =>
  unfold tkM at h
  simp only at h
  by_cases hk : zkX t = true
  ·rw [if_pos hk] at h; exact ⟨t, r, rfl, hk, h⟩
  ·rw [if_neg hk] at h; cases h
theorem zjz {A : Type} {l : List Tok} {y x : A} (h : tkE l y = some x) : l = [] /\ y = x := by
 cases l with
 | nil => cases h; exact ⟨rfl, rfl⟩
 | cons t r => cases h
theorem zd9 : ∀ {l : List (List UInt8)} {o : List (Int × Int)}, wO l = some o -> o.length = l.length
 | [], o, h => by cases h; rfl
 | s :: l, o, h => by
  unfold wO at h
  cases hr : zeV s with
  | none => rw [hr] at h; cases h
  | some r =>
   cases ht : wO l with
   | none => rw [hr, ht] at h; cases h
   | some t =>
    rw [hr, ht] at h
    cases h
    simp only [List.length_cons, zd9 ht]
theorem zdW {s : List UInt8} {o : List (Int × Int)} (h : zms s = some o) : 0 < o.length /\ o.length <= s.length + 1 := by
 rw [zd9 h]
 exact ⟨(zbe 44 s).1, (zbe 44 s).2.1⟩
theorem zgB {tag : List UInt8} {l : List Tok} {c : El uS2} (hk : ∀ t ∈ l, qG t) (h : zjJ tag l = some c) :
  (∃ k, 1 <= k /\ k <= 4 /\ c = cA tag k [] 0 []) \/ (∃ m, m.length <= 2000 /\ c = cA tag 5 m 0 []) \/ (∃ m r f d, m.length <= 2000 /\ ziD r = some (f, d) /\ (∀ t ∈ r, qG t) /\ c = cA tag 6 m f d)
  \/ (∃ s st r x, s.length <= 2000 /\ zms s = some st /\ itS r = some x /\ (∀ t ∈ r, qG t) /\ c = cI tag 7 st x)
  \/ (∃ s st w r m b f, s.length <= 2000 /\ zms s = some st /\ zkq w = some (m, b) /\ w.length <= 2000 /\ zlG r = some f /\ (∀ t ∈ r, qG t) /\ c = cS tag 8 st m b f) := by
 unfold zjJ at h
 obtain ⟨w, r, rfl, h4, h⟩ := wK h
 have hkw := hk w (List.mem_cons_self ..)
 have hkr : ∀ t ∈ r, qG t := fun t ht => hk t (List.mem_cons_of_mem _ ht)
 have hkv := zi9 w.2.1 hkw.2.1
 generalize zaz w.2.1 = k at h hkv
 by_cases hz : k = 0
 ·rw [if_pos hz] at h; cases h
 ·rw [if_neg hz] at h
  by_cases hk4 : k <= 4
  ·rw [if_pos hk4] at h
   obtain ⟨h1, h2⟩ := zjz h
   exact .inl ⟨k, by omega, hk4, h2.symm⟩
  ·rw [if_neg hk4] at h
   by_cases h5 : k = 5
   ·rw [if_pos h5] at h
    subst h5
    obtain ⟨s, r1, rfl, h6, h⟩ := wK h
    obtain ⟨m, r2, rfl, h7, h⟩ := zi4 h
    obtain ⟨h8, h9⟩ := zjz h
    exact .inr (.inl ⟨m.2.1, (hkr m (by simp)).2.1, h9.symm⟩)
   ·rw [if_neg h5] at h
    by_cases h6 : k = 6
    ·rw [if_pos h6] at h
     subst h6
     obtain ⟨s, r1, rfl, h6, h⟩ := wK h
     obtain ⟨m, r2, rfl, h7, h⟩ := zi4 h
     obtain ⟨s2, r3, rfl, h8, h⟩ := wK h
     cases ha : ziD r3 with
     | none => rw [ha] at h; cases h
     | some p =>
      rw [ha] at h
      cases h
      exact .inr (.inr (.inl ⟨m.2.1, r3, p.1, p.2, (hkr m (by simp)).2.1, ha, fun t ht => hkr t (by simp [ht]), rfl⟩))
    ·rw [if_neg h6] at h
     by_cases h7 : k = 7
     ·rw [if_pos h7] at h
      subst h7
      obtain ⟨s, r1, rfl, h6, h⟩ := wK h
      obtain ⟨t, r2, rfl, h7, h⟩ := wK h
      cases hs : zms t.2.1 with
      | none => rw [hs] at h; cases h
      | some st =>
       rw [hs, Option.bind_some] at h
       obtain ⟨s2, r3, rfl, h8, h⟩ := wK h
       cases ha : itS r3 with
       | none => rw [ha] at h; cases h
       | some x =>
        rw [ha] at h
        cases h
        exact .inr (.inr (.inr (.inl ⟨t.2.1, st, r3, x, (hkr t (by simp)).2.1, hs, ha, fun t ht => hkr t (by simp [ht]), rfl⟩)))
     ·rw [if_neg h7] at h
      have h8 : k = 8 := by omega
      subst h8
      obtain ⟨s, r1, rfl, h6, h⟩ := wK h
      obtain ⟨t, r2, rfl, h7, h⟩ := wK h
      cases hs : zms t.2.1 with
      | none => rw [hs] at h; cases h
      | some st =>
       rw [hs, Option.bind_some] at h
       obtain ⟨s2, r3, rfl, h8, h⟩ := wK h
       obtain ⟨w2, r4, rfl, h9, h⟩ := wK h
       cases hm : zkq w2.2.1 with
       | none => rw [hm] at h; cases h
       | some mb =>
        rw [hm, Option.bind_some] at h
        obtain ⟨s3, r5, rfl, h10, h⟩ := wK h
        cases ha : zlG r5 with
        | none => rw [ha] at h; cases h
        | some f =>
         rw [ha] at h
         cases h
         exact .inr (.inr (.inr (.inr ⟨t.2.1, st, w2.2.1, r5, mb.1, mb.2, f, (hkr t (by simp)).2.1, hs, hm, (hkr w2 (by simp)).2.1, ha, fun t ht => hkr t (by simp [ht]), rfl⟩)))
theorem zkV (b : List UInt8) (hb : b.length <= 2000) : (zbS b).1.2.2.2.1.length <= 2001 := by
 unfold zbS
 split
 ·split
  ·rename_i l ht
   have hdl : (b.drop (run qA b + 1)).length <= 2000 := by rw [List.length_drop]; omega
   obtain ⟨p, e, rfl, he, hk, hpl⟩ := zf0 hdl 3000 0 l (by omega) ht
   rw [List.dropLast_concat]
   cases hs : zjJ (b.take (run qA b)) p with
   | none => simp [zfN]
   | some c =>
    rcases zgB hk hs with ⟨k, _, _, rfl⟩ | ⟨m, _, rfl⟩ | ⟨m, r, f, d, _, _, _, rfl⟩ | ⟨s, st, r, x, h1, h2, _, _, rfl⟩ | ⟨s, st, w, r, m, b, f, h1, h2, _, _, _, _, rfl⟩
    ·simp [cA]
    ·simp [cA]
    ·simp [cA]
    ·have := (zdW h2).2; simp only [cI]; omega
    ·have := (zdW h2).2; simp only [cS]; omega
  ·simp [zfN]
 ·simp [zfN]
theorem zg7 (c : Bool) (b : Bool) : cond c (some (b, ())) (some (false, ())) = some (c && b, ()) := by cases c <;> rfl
theorem znF (t k m it mo si fl da t' k' m' it' mo' si' fl' da') (st : List (Int × Int)) (hst : st.length <= 2001) : ∀ (n i : Nat), i <= st.length -> st.length < n + i ->
  qm 3000 n (i : Int) t k m st it mo si fl da t' k' m' st it' mo' si' fl' da' = some (.inr (t, k, m, st, it, mo, si, fl, da, t', k', m', st, it', mo', si', fl', da'))
 | 0, i, h, h' => by omega
 | n + 1, i, h, h' => by
  unfold qm kK
  by_cases hi : i < st.length
  ·simp only [zmv hi, cond_true, jw hi, Int.toNat_natCast, zaY (u := .pair (.int .u32) (.int .u32)) hi, beq_self_eq_true, Bool.and_true, Bool.not_true, cond_false]
   rw [wri (by omega) (by omega), show ((i : Int) + 1) = ((i + 1 : Nat) : Int) by omega]
   exact znF t k m it mo si fl da t' k' m' it' mo' si' fl' da' st hst n (i + 1) (by omega) (by omega)
  ·simp only [zmx hi, cond_false]
def zco (a b : El uS2) : Bool := a.2.2.2.2.2.2.2.2 == b.2.2.2.2.2.2.2.2 && (a.1 == b.1 && (a.2.1 == b.2.1 && (a.2.2.1 == b.2.2.1 && (a.2.2.2.2.1 == b.2.2.2.2.1 && (a.2.2.2.2.2.1 == b.2.2.2.2.2.1 && (a.2.2.2.2.2.2.1 == b.2.2.2.2.2.2.1 && a.2.2.2.2.2.2.2.1 == b.2.2.2.2.2.2.2.1))))))
theorem zi7 (a b : El uS2) (hs : a.2.2.2.1 = b.2.2.2.1) (h : a.2.2.2.1.length <= 2001) : zQ 3000 a b = some (zco a b, ()) := by
 obtain ⟨t, k, m, st, it, mo, si, fl, da⟩ := a
 obtain ⟨t', k', m', st', it', mo', si', fl', da'⟩ := b
 simp only at hs h
 subst hs
 have hL := znF t k m it mo si fl da t' k' m' it' mo' si' fl' da' st h 3000 0 (by omega) (by omega)
 rw [show ((0 : Nat) : Int) = (0 : Int) from rfl] at hL
 unfold zQ zco
 simp only [bne_self_eq_false, cond_false, hL, Option.bind_some, zm]
 simp only [bne]
 cases da == da' <;> simp only [Bool.not_true, Bool.not_false, cond_true, cond_false, Bool.true_and, Bool.false_and, zg7]
theorem zmN (a b : El uS2) (hs : a.2.2.2.1.length ≠ b.2.2.2.1.length) : zQ 3000 a b = some (false, ()) := by
 unfold zQ
 have : ((((List.length a.2.2.2.1) : Nat) : Int) != (((List.length b.2.2.2.1) : Nat) : Int)) = true := by simp; omega
 simp only [this, cond_true]
theorem zpy (N : Nat) (s : List UInt8) (hs : s.length <= 100000) : ∀ (m i : Nat), i <= s.length -> s.length < m + i ->
  zT N m s (s.length : Int) (i : Int) = some (if (s.drop i).all qA = true then Sum.inr () else Sum.inl ())
 | 0, i, h, h' => by omega
 | m + 1, i, h, h' => by
  unfold zT wz
  by_cases hi : i < s.length
  ·simp only [zmv hi, cond_true, jw hi, Int.toNat_natCast, zaY (u := .u8) hi, zrt, Option.bind_some, drop_one hi, List.all_cons]
   cases hc : qA s[i] with
   | true =>
    simp only [Bool.not_true, cond_false, Bool.true_and]
    rw [wri (by omega) (by omega), show ((i : Int) + 1) = ((i + 1 : Nat) : Int) by omega]
    exact zpy N s hs m (i + 1) (by omega) (by omega)
   | false => simp
  ·simp only [zmx hi, cond_false]
   rw [List.drop_eq_nil_of_le (by omega)]
   simp
theorem znB (N : Nat) (s : List UInt8) (hs : s.length <= 100000) : ∀ (m i : Nat), i <= s.length -> s.length < m + i ->
  qn N m s (i : Int) = some (if (s.drop i).all qA = true then Sum.inr s else Sum.inl ())
 | 0, i, h, h' => by omega
 | m + 1, i, h, h' => by
  unfold qn kU
  by_cases hi : i < s.length
  ·simp only [zmv hi, cond_true, jw hi, Int.toNat_natCast, zaY (u := .u8) hi, zsi, Option.bind_some, drop_one hi, List.all_cons]
   cases hc : qA s[i] with
   | true =>
    simp only [Bool.not_true, cond_false, Bool.true_and]
    rw [wri (by omega) (by omega), show ((i : Int) + 1) = ((i + 1 : Nat) : Int) by omega]
    exact znB N s hs m (i + 1) (by omega) (by omega)
   | false => simp
  ·simp only [zmx hi, cond_false]
   rw [List.drop_eq_nil_of_le (by omega)]
   simp
def zbs (s : List UInt8) : Bool := s != [] && s.all qA
theorem zlF (s : List UInt8) (hs : s.length <= 2000) : kf 3000 s = some (zbs s, ()) := by
 have hL := znB 3000 s (by omega) 3000 0 (by omega) (by omega)
 rw [show ((0 : Nat) : Int) = (0 : Int) from rfl, List.drop_zero] at hL
 unfold kf zbs
 rw [hL]
 cases s.all qA <;> simp [zm]
theorem zql (st : List (Int × Int)) : zE 3000 st [] = some (decide (st = []), ()) := by
 unfold zE
 cases st with
 | nil => rfl
 | cons a r =>
  have : ((((List.length (a :: r)) : Nat) : Int) != (((List.length ([] : List (Int × Int))) : Nat) : Int)) = true := by simp; omega
  simp only [this, cond_true]
  simp
def zmQ (m : List UInt8) (st : List (Int × Int)) (it mo : Int) (si : Bool) (fl : UInt8) (da : List UInt8) : Bool := m == [] && (decide (st = []) && (it == 0 && (mo == 0 && (si == false && (fl == 0 && da == [])))))
theorem zla (m : List UInt8) (st : List (Int × Int)) (it mo : Int) (si : Bool) (fl : UInt8) (da : List UInt8) :
  qa 3000 (([] : List UInt8), ((0 : Int), (m, (st, (it, (mo, (si, (fl, da)))))))) (([] : List UInt8), ((0 : Int), (([] : List UInt8), (([] : List (Int × Int)), ((0 : Int), ((0 : Int), (false, ((0 : UInt8), ([] : List UInt8))))))))) = some (zmQ m st it mo si fl da, ()) := by
 unfold qa zmQ
 simp only [beq_self_eq_true, cond_true, zql, Option.bind_some, zg7]
theorem zkZ (k : Int) : ∃ v, wi 3000 k = some (v, ()) /\ (v == ([] : List UInt8)) = !(decide (1 <= k) && decide (k <= 8)) := by
 unfold wi
 by_cases h1 : 1 <= k
 ·by_cases h8 : k <= 8
  ·have e1 : decide ((1 : Int) <= k) = true := by simpa using h1
   have e2 : decide (k <= (8 : Int)) = true := by simpa using h8
   simp only [e1, e2, cond_true]
   have : k = 1 \/ k = 2 \/ k = 3 \/ k = 4 \/ k = 5 \/ k = 6 \/ k = 7 \/ k = 8 := by omega
   rcases this with rfl | rfl | rfl | rfl | rfl | rfl | rfl | rfl <;> exact ⟨_, rfl, rfl⟩
  ·have e1 : decide ((1 : Int) <= k) = true := by simpa using h1
   have e2 : decide (k <= (8 : Int)) = false := by simpa using h8
   simp only [e1, e2, cond_true, cond_false]
   exact ⟨_, rfl, rfl⟩
 ·have e1 : decide ((1 : Int) <= k) = false := by simpa using h1
  simp only [e1, cond_false]
  exact ⟨_, rfl, rfl⟩
def VP (t : List UInt8) (k : Int) (m : List UInt8) (st : List (Int × Int)) (it mo : Int) (si : Bool) (fl : UInt8) (da : List UInt8) : Prop :=
 zbs t = true /\ 1 <= k /\ k <= 8 /\ m.length <= 65536 /\ da.length <= 65536 /\ fl <= 31 /\
 ((k = 5 /\ st = [] /\ it = 0 /\ mo = 0 /\ si = false /\ fl = 0 /\ da = []) \/ (k = 6 /\ st = [] /\ it = 0 /\ mo = 0 /\ si = false) \/
  (k = 7 /\ m = [] /\ st ≠ [] /\ 1 <= it /\ it <= 31 /\ mo = 0 /\ si = false /\ fl = 0 /\ da = []) \/ (k = 8 /\ m = [] /\ st ≠ [] /\ it = 0 /\ 0 <= mo /\ mo <= 2 /\ da = []) \/
  (k <= 4 /\ m = [] /\ st = [] /\ it = 0 /\ mo = 0 /\ si = false /\ fl = 0 /\ da = []))
def zmw (o : Option (Bool × Unit)) (p : Prop) : Prop := ∃ b : Bool, o = some (b, ()) /\ (b = true ↔ p)
theorem qT {p : Prop} (h : ¬ p) : zmw (some (false, ())) p := ⟨false, rfl, by simp [h]⟩
theorem zg8 {b : Bool} {p : Prop} (h : b = true ↔ p) : zmw (some (b, ())) p := ⟨b, rfl, h⟩
theorem max_le (a b : Nat) : decide ((65536 : Int) < (if ((b : Nat) : Int) > ((a : Nat) : Int) then ((b : Nat) : Int) else ((a : Nat) : Int))) = !(decide (a <= 65536) && decide (b <= 65536)) := by
 rw [Bool.eq_iff_iff]
 by_cases h : ((b : Nat) : Int) > ((a : Nat) : Int)
 ·rw [if_pos h]; simp; omega
 ·rw [if_neg h]; simp; omega
theorem zaM {m : List UInt8} {st : List (Int × Int)} {it mo : Int} {si : Bool} {fl : UInt8} {da : List UInt8} : zmQ m st it mo si fl da = true ↔ m = [] /\ st = [] /\ it = 0 /\ mo = 0 /\ si = false /\ fl = 0 /\ da = [] := by
 unfold zmQ
 simp only [Bool.and_eq_true, beq_iff_eq, decide_eq_true_eq]
theorem zfG (t : List UInt8) (k : Int) (m : List UInt8) (st : List (Int × Int)) (it mo : Int) (si : Bool) (fl : UInt8) (da : List UInt8) (ht : t.length <= 2000) :
  zmw (jd 3000 (t, (k, (m, (st, (it, (mo, (si, (fl, da)))))))))  (VP t k m st it mo si fl da) := by
 have hL := zpy 3000 t (by omega) 3000 0 (by omega) (by omega)
 rw [show ((0 : Nat) : Int) = (0 : Int) from rfl, List.drop_zero] at hL
 obtain ⟨v, hv1, hv2⟩ := zkZ k
 unfold jd
 simp only [hL, hv1, Option.bind_some, hv2, max_le]
 by_cases h0 : t = []
 ·have : (t != ([] : List UInt8)) = false := by simpa using h0
  simp only [this, cond_false]
  exact qT (fun h => by have := h.1; simp [zbs, h0] at this)
 ·have e0 : (t != ([] : List UInt8)) = true := by simpa using h0
  simp only [e0, cond_true]
  cases hall : t.all qA with
  | false =>
   simp only [Bool.false_eq_true, if_false, zm]
   exact qT (fun h => by have := h.1; simp [zbs, hall] at this)
  | true =>
   have hit : zbs t = true := by unfold zbs; rw [e0, hall]; rfl
   simp only [if_true, zm]
   by_cases h18 : 1 <= k /\ k <= 8
   ·have e1 : (decide ((1 : Int) <= k) && decide (k <= (8 : Int))) = true := by simpa using h18
    simp only [e1, Bool.not_true, cond_false]
    by_cases hf : fl <= 31
    ·have e2 : decide ((31 : UInt8) < fl) = false := by
      rw [decide_eq_false_iff_not]; exact UInt8.not_lt.2 hf
     simp only [e2, cond_false]
     by_cases hml : m.length <= 65536 /\ da.length <= 65536
     ·have e3 : (decide (m.length <= 65536) && decide (da.length <= 65536)) = true := by simpa using hml
      simp only [e3, Bool.not_true, cond_false]
      by_cases h5 : k = 5
      ·simp only [eqT h5, cond_true]
       rw [zla, Option.bind_some]
       refine zg8 ?_
       unfold VP
       rw [zaM]
       constructor
       ·rintro ⟨_, a1, a2, a3, a4, a5, a6⟩
        exact ⟨hit, h18.1, h18.2, hml.1, hml.2, hf, .inl ⟨h5, a1, a2, a3, a4, a5, a6⟩⟩
       ·rintro ⟨_, _, _, _, _, _, h | h | h | h | h⟩
        ·exact ⟨rfl, h.2⟩
        ·omega
        ·omega
        ·omega
        ·omega
      ·simp only [eqF h5, cond_false]
       by_cases h6 : k = 6
       ·simp only [eqT h6, cond_true]
        rw [zla, Option.bind_some]
        refine zg8 ?_
        unfold VP
        rw [zaM]
        constructor
        ·rintro ⟨_, a1, a2, a3, a4, _, _⟩
         exact ⟨hit, h18.1, h18.2, hml.1, hml.2, hf, .inr (.inl ⟨h6, a1, a2, a3, a4⟩)⟩
        ·rintro ⟨_, _, _, _, _, _, h | h | h | h | h⟩
         ·omega
         ·exact ⟨rfl, h.2.1, h.2.2.1, h.2.2.2.1, h.2.2.2.2, rfl, rfl⟩
         ·omega
         ·omega
         ·omega
       ·simp only [eqF h6, cond_false]
        by_cases h7 : k = 7
        ·simp only [eqT h7, cond_true]
         by_cases hst : st = []
         ·simp only [hst, List.length_nil, show (((0 : Nat) : Int) == (0 : Int)) = true from rfl, cond_true]
          exact qT (fun h => by
           obtain ⟨_, _, _, _, _, _, h | h | h | h | h⟩ := h
           ·omega
           ·omega
           ·exact h.2.2.1 rfl
           ·omega
           ·omega)
         ·have e4 : ((((List.length st) : Nat) : Int) == (0 : Int)) = false := znD (n := 0) (by simpa using hst)
          simp only [e4, cond_false]
          by_cases hi1 : it < 1
          ·simp only [show decide (it < (1 : Int)) = true from by simpa using hi1, cond_true]
           exact qT (fun h => by
            obtain ⟨_, _, _, _, _, _, h | h | h | h | h⟩ := h <;> omega)
          ·simp only [show decide (it < (1 : Int)) = false from by simpa using hi1, cond_false]
           by_cases hi2 : 31 < it
           ·simp only [show decide ((31 : Int) < it) = true from by simpa using hi2, cond_true]
            exact qT (fun h => by
             obtain ⟨_, _, _, _, _, _, h | h | h | h | h⟩ := h <;> omega)
           ·simp only [show decide ((31 : Int) < it) = false from by simpa using hi2, cond_false]
            rw [zla, Option.bind_some]
            refine zg8 ?_
            unfold VP
            rw [zaM]
            constructor
            ·rintro ⟨a0, _, _, a3, a4, a5, a6⟩
             exact ⟨hit, h18.1, h18.2, hml.1, hml.2, hf, .inr (.inr (.inl ⟨h7, a0, hst, by omega, by omega, a3, a4, a5, a6⟩))⟩
            ·rintro ⟨_, _, _, _, _, _, h | h | h | h | h⟩
             ·omega
             ·omega
             ·exact ⟨h.2.1, rfl, rfl, h.2.2.2.2.2⟩
             ·omega
             ·omega
        ·simp only [eqF h7, cond_false]
         by_cases h8 : k = 8
         ·simp only [eqT h8, cond_true]
          by_cases hst : st = []
          ·simp only [hst, List.length_nil, show (((0 : Nat) : Int) == (0 : Int)) = true from rfl, cond_true]
           exact qT (fun h => by
            obtain ⟨_, _, _, _, _, _, h | h | h | h | h⟩ := h
            ·omega
            ·omega
            ·omega
            ·exact h.2.2.1 rfl
            ·omega)
          ·have e4 : ((((List.length st) : Nat) : Int) == (0 : Int)) = false := znD (n := 0) (by simpa using hst)
           simp only [e4, cond_false]
           by_cases hi1 : mo < 0
           ·simp only [show decide (mo < (0 : Int)) = true from by simpa using hi1, cond_true]
            exact qT (fun h => by
             obtain ⟨_, _, _, _, _, _, h | h | h | h | h⟩ := h <;> omega)
           ·simp only [show decide (mo < (0 : Int)) = false from by simpa using hi1, cond_false]
            by_cases hi2 : 2 < mo
            ·simp only [show decide ((2 : Int) < mo) = true from by simpa using hi2, cond_true]
             exact qT (fun h => by
              obtain ⟨_, _, _, _, _, _, h | h | h | h | h⟩ := h <;> omega)
            ·simp only [show decide ((2 : Int) < mo) = false from by simpa using hi2, cond_false]
             rw [zla, Option.bind_some]
             refine zg8 ?_
             unfold VP
             rw [zaM]
             constructor
             ·rintro ⟨a0, _, a2, _, _, _, a6⟩
              exact ⟨hit, h18.1, h18.2, hml.1, hml.2, hf, .inr (.inr (.inr (.inl ⟨h8, a0, hst, a2, by omega, by omega, a6⟩)))⟩
             ·rintro ⟨_, _, _, _, _, _, h | h | h | h | h⟩
              ·omega
              ·omega
              ·omega
              ·exact ⟨h.2.1, rfl, h.2.2.2.1, rfl, rfl, rfl, h.2.2.2.2.2.2⟩
              ·omega
         ·simp only [eqF h8, cond_false]
          rw [zla, Option.bind_some]
          refine zg8 ?_
          unfold VP
          rw [zaM]
          constructor
          ·rintro ⟨a0, a1, a2, a3, a4, a5, a6⟩
           exact ⟨hit, h18.1, h18.2, hml.1, hml.2, hf, .inr (.inr (.inr (.inr ⟨by omega, a0, a1, a2, a3, a4, a5, a6⟩)))⟩
          ·rintro ⟨_, _, _, _, _, _, h | h | h | h | h⟩
           ·omega
           ·omega
           ·omega
           ·omega
           ·exact h.2
     ·have e3 : (decide (m.length <= 65536) && decide (da.length <= 65536)) = false := by
       rw [Bool.eq_false_iff]; intro h; exact hml (by simpa using h)
      simp only [e3, Bool.not_false, cond_true]
      exact qT (fun h => hml ⟨h.2.2.2.1, h.2.2.2.2.1⟩)
    ·have e2 : decide ((31 : UInt8) < fl) = true := by
      rw [decide_eq_true_eq]; exact UInt8.not_le.1 hf
     simp only [e2, cond_true]
     exact qT (fun h => hf h.2.2.2.2.2.1)
   ·have e1 : (decide ((1 : Int) <= k) && decide (k <= (8 : Int))) = false := by
     rw [Bool.eq_false_iff]; intro h; exact h18 (by simpa using h)
    simp only [e1, Bool.not_false, cond_true]
    exact qT (fun h => h18 ⟨h.2.1, h.2.2.1⟩)
theorem zaO {o : Option (Bool × Unit)} {p : Prop} (h : zmw o p) : zmw (Option.bind o fun y => some (y.1, ())) p := by
 obtain ⟨b, h1, h2⟩ := h
 rw [h1]; exact ⟨b, rfl, h2⟩
theorem zb3 {o : Option (Bool × Unit)} {p q : Prop} (h : zmw o p) (hpq : p ↔ q) : zmw o q := by
 obtain ⟨b, h1, h2⟩ := h
 exact ⟨b, h1, h2.trans hpq⟩
theorem zl5 (a b : El uS2) (hb : b.2.2.2.1 = []) (h : a.2.2.2.1.length <= 2001) : zmw (zQ 3000 a b) (a.2.2.2.1 = [] /\ zco a b = true) := by
 by_cases ha : a.2.2.2.1 = []
 ·exact ⟨_, zi7 a b (by rw [ha, hb]) h, by simp [ha]⟩
 ·refine ⟨false, zmN a b ?_, by simp [ha]⟩
  rw [hb]
  intro h0
  exact ha (List.length_eq_zero_iff.1 h0)
theorem zqb (a b : El uS2) (hb : a.2.2.2.1 = b.2.2.2.1) (h : a.2.2.2.1.length <= 2001) : zmw (zQ 3000 a b) (zco a b = true) := ⟨_, zi7 a b hb h, Iff.rfl⟩
theorem zhB (t : List UInt8) (k : Int) (m : List UInt8) (st : List (Int × Int)) (it mo : Int) (si : Bool) (fl : UInt8) (da : List UInt8) (ht : t.length <= 2000) (hst : st.length <= 2001) :
  zmw (jN 3000 (t, (k, (m, (st, (it, (mo, (si, (fl, da)))))))))  (VP t k m st it mo si fl da) := by
 have hit := zlF t ht
 unfold jN
 simp only [hit, Option.bind_some]
 cases hT : zbs t with
 | false =>
  simp only [Bool.not_false, cond_true]
  exact qT (fun h => by have := h.1; rw [hT] at this; cases this)
 | true =>
  simp only [Bool.not_true, cond_false]
  by_cases h1 : k < 1
  ·simp only [show decide (k < (1 : Int)) = true from by simpa using h1, cond_true]
   exact qT (fun h => by have := h.2.1; omega)
  ·simp only [show decide (k < (1 : Int)) = false from by simpa using h1, cond_false]
   by_cases h8 : 8 < k
   ·simp only [show decide ((8 : Int) < k) = true from by simpa using h8, cond_true]
    exact qT (fun h => by have := h.2.2.1; omega)
   ·simp only [show decide ((8 : Int) < k) = false from by simpa using h8, cond_false]
    by_cases h5 : k = 5
    ·simp only [eqT h5, cond_true]
     by_cases hm : m.length <= 65536
     ·simp only [show decide ((((List.length m) : Nat) : Int) <= (65536 : Int)) = true from by simp; omega, cond_true]
      refine zb3 (zaO (zl5 _ _ rfl hst)) ?_
      unfold VP zco
      simp only [beq_self_eq_true, Bool.true_and, Bool.and_eq_true, beq_iff_eq]
      constructor
      ·rintro ⟨a1, a6, a2, a3, a4, a5⟩
       exact ⟨hT, by omega, by omega, hm, by rw [a6]; simp, by rw [a5]; decide, .inl ⟨h5, a1, a2, a3, a4, a5, a6⟩⟩
      ·rintro ⟨_, _, _, _, _, _, h | h | h | h | h⟩
       ·exact ⟨h.2.1, h.2.2.2.2.2.2, h.2.2.1, h.2.2.2.1, h.2.2.2.2.1, h.2.2.2.2.2.1⟩
       ·omega
       ·omega
       ·omega
       ·omega
     ·simp only [show decide ((((List.length m) : Nat) : Int) <= (65536 : Int)) = false from by simp; omega, cond_false]
      exact qT (fun h => hm h.2.2.2.1)
    ·simp only [eqF h5, cond_false]
     by_cases h6 : k = 6
     ·simp only [eqT h6, cond_true]
      by_cases hm : m.length <= 65536
      ·simp only [show decide ((((List.length m) : Nat) : Int) <= (65536 : Int)) = true from by simp; omega, cond_true]
       by_cases hd : da.length <= 65536
       ·simp only [show decide ((((List.length da) : Nat) : Int) <= (65536 : Int)) = true from by simp; omega, cond_true]
        by_cases hf : fl <= 31
        ·simp only [show decide (fl <= (31 : UInt8)) = true from by simpa using hf, cond_true]
         refine zb3 (zaO (zl5 _ _ rfl hst)) ?_
         unfold VP zco
         simp only [beq_self_eq_true, Bool.true_and, Bool.and_true, Bool.and_eq_true, beq_iff_eq]
         constructor
         ·rintro ⟨a1, a2, a3, a4⟩
          exact ⟨hT, by omega, by omega, hm, hd, hf, .inr (.inl ⟨h6, a1, a2, a3, a4⟩)⟩
         ·rintro ⟨_, _, _, _, _, _, h | h | h | h | h⟩
          ·omega
          ·exact h.2
          ·omega
          ·omega
          ·omega
        ·simp only [show decide (fl <= (31 : UInt8)) = false from by simpa using hf, cond_false]
         exact qT (fun h => hf h.2.2.2.2.2.1)
       ·simp only [show decide ((((List.length da) : Nat) : Int) <= (65536 : Int)) = false from by simp; omega, cond_false]
        exact qT (fun h => hd h.2.2.2.2.1)
      ·simp only [show decide ((((List.length m) : Nat) : Int) <= (65536 : Int)) = false from by simp; omega, cond_false]
       exact qT (fun h => hm h.2.2.2.1)
     ·simp only [eqF h6, cond_false]
      by_cases h7 : k = 7
      ·simp only [eqT h7, cond_true]
       by_cases hs : st = []
       ·simp only [hs, List.length_nil, show decide ((0 : Int) < ((0 : Nat) : Int)) = false from rfl, cond_false]
        exact qT (fun h => by
         obtain ⟨_, _, _, _, _, _, h | h | h | h | h⟩ := h
         ·omega
         ·omega
         ·exact h.2.2.1 rfl
         ·omega
         ·omega)
       ·have : 0 < st.length := List.length_pos_iff.2 hs
        simp only [show decide ((0 : Int) < (((List.length st) : Nat) : Int)) = true from by simp; omega, cond_true]
        by_cases hi1 : 1 <= it
        ·simp only [show decide ((1 : Int) <= it) = true from by simpa using hi1, cond_true]
         by_cases hi2 : it <= 31
         ·simp only [show decide (it <= (31 : Int)) = true from by simpa using hi2, cond_true]
          refine zb3 (zaO (zqb _ _ rfl hst)) ?_
          unfold VP zco
          simp only [beq_self_eq_true, Bool.true_and, Bool.and_eq_true, beq_iff_eq]
          constructor
          ·rintro ⟨a6, a0, a3, a4, a5⟩
           exact ⟨hT, by omega, by omega, by rw [a0]; simp, by rw [a6]; simp, by rw [a5]; decide, .inr (.inr (.inl ⟨h7, a0, hs, hi1, hi2, a3, a4, a5, a6⟩))⟩
          ·rintro ⟨_, _, _, _, _, _, h | h | h | h | h⟩
           ·omega
           ·omega
           ·exact ⟨h.2.2.2.2.2.2.2.2, h.2.1, h.2.2.2.2.2.1, h.2.2.2.2.2.2.1, h.2.2.2.2.2.2.2.1⟩
           ·omega
           ·omega
         ·simp only [show decide (it <= (31 : Int)) = false from by simpa using hi2, cond_false]
          exact qT (fun h => by
           obtain ⟨_, _, _, _, _, _, h | h | h | h | h⟩ := h <;> omega)
        ·simp only [show decide ((1 : Int) <= it) = false from by simpa using hi1, cond_false]
         exact qT (fun h => by
          obtain ⟨_, _, _, _, _, _, h | h | h | h | h⟩ := h <;> omega)
      ·simp only [eqF h7, cond_false]
       by_cases h9 : k = 8
       ·simp only [eqT h9, cond_true]
        by_cases hs : st = []
        ·simp only [hs, List.length_nil, show decide ((0 : Int) < ((0 : Nat) : Int)) = false from rfl, cond_false]
         exact qT (fun h => by
          obtain ⟨_, _, _, _, _, _, h | h | h | h | h⟩ := h
          ·omega
          ·omega
          ·omega
          ·exact h.2.2.1 rfl
          ·omega)
        ·have : 0 < st.length := List.length_pos_iff.2 hs
         simp only [show decide ((0 : Int) < (((List.length st) : Nat) : Int)) = true from by simp; omega, cond_true]
         by_cases hi1 : 0 <= mo
         ·simp only [show decide ((0 : Int) <= mo) = true from by simpa using hi1, cond_true]
          by_cases hi2 : mo <= 2
          ·simp only [show decide (mo <= (2 : Int)) = true from by simpa using hi2, cond_true]
           by_cases hf : fl <= 31
           ·simp only [show decide (fl <= (31 : UInt8)) = true from by simpa using hf, cond_true]
            refine zb3 (zaO (zqb _ _ rfl hst)) ?_
            unfold VP zco
            simp only [beq_self_eq_true, Bool.true_and, Bool.and_true, Bool.and_eq_true, beq_iff_eq]
            constructor
            ·rintro ⟨a6, a0, a3⟩
             exact ⟨hT, by omega, by omega, by rw [a0]; simp, by rw [a6]; simp, hf, .inr (.inr (.inr (.inl ⟨h9, a0, hs, a3, hi1, hi2, a6⟩)))⟩
            ·rintro ⟨_, _, _, _, _, _, h | h | h | h | h⟩
             ·omega
             ·omega
             ·omega
             ·exact ⟨h.2.2.2.2.2.2, h.2.1, h.2.2.2.1⟩
             ·omega
           ·simp only [show decide (fl <= (31 : UInt8)) = false from by simpa using hf, cond_false]
            exact qT (fun h => hf h.2.2.2.2.2.1)
          ·simp only [show decide (mo <= (2 : Int)) = false from by simpa using hi2, cond_false]
           exact qT (fun h => by
            obtain ⟨_, _, _, _, _, _, h | h | h | h | h⟩ := h <;> omega)
         ·simp only [show decide ((0 : Int) <= mo) = false from by simpa using hi1, cond_false]
          exact qT (fun h => by
           obtain ⟨_, _, _, _, _, _, h | h | h | h | h⟩ := h <;> omega)
       ·simp only [eqF h9, cond_false]
        refine zb3 (zaO (zl5 _ _ rfl hst)) ?_
        unfold VP zco
        simp only [beq_self_eq_true, Bool.true_and, Bool.and_eq_true, beq_iff_eq]
        constructor
        ·rintro ⟨a1, a6, a0, a2, a3, a4, a5⟩
         exact ⟨hT, by omega, by omega, by rw [a0]; simp, by rw [a6]; simp, by rw [a5]; decide, .inr (.inr (.inr (.inr ⟨by omega, a0, a1, a2, a3, a4, a5, a6⟩)))⟩
        ·rintro ⟨_, _, _, _, _, _, h | h | h | h | h⟩
         ·omega
         ·omega
         ·omega
         ·omega
         ·exact ⟨h.2.2.1, h.2.2.2.2.2.2.2, h.2.1, h.2.2.2.1, h.2.2.2.2.1, h.2.2.2.2.2.1, h.2.2.2.2.2.2.1⟩
theorem zn0 {a b : Nat} (ha : a < 32) (hb : b < 32) (h0 : 0 < b) : ∃ c : Nat, orI ((a : Nat) : Int) ((b : Nat) : Int) = ((c : Nat) : Int) /\ c < 32 /\ 0 < c := by
 have h : ((List.range 32).all fun a => (List.range 32).all fun b => Nat.beq b 0 || (decide (0 < orI ((a : Nat) : Int) ((b : Nat) : Int)) && decide ((orI ((a : Nat) : Int) ((b : Nat) : Int)).toNat < 32))) = true := by kernel_rfl
 have h1 := List.all_eq_true.1 (List.all_eq_true.1 h a (List.mem_range.2 ha)) b (List.mem_range.2 hb)
 simp only [Bool.or_eq_true, Bool.and_eq_true, decide_eq_true_eq] at h1
 rcases h1 with h1 | h1
 ·have := Nat.eq_of_beq_eq_true h1; omega
 ·exact ⟨(orI ((a : Nat) : Int) ((b : Nat) : Int)).toNat, (Int.toNat_of_nonneg (by omega)).symm, h1.2, by omega⟩
theorem znZ {items : Bool} {s : List UInt8} {x : Int} (hs : s.length <= 2000) (h : fW items s = some x) : ∃ n : Nat, x = ((n : Nat) : Int) /\ 0 < n /\ n < 32 := by
 cases items with
 | true =>
  by_cases h0 : xi s = 0
  ·rw [zgw h0] at h; cases h
  ·rw [zgj h0] at h
   cases h
   have := zd3 s hs
   exact ⟨(xi s).toNat, by omega, by omega, by omega⟩
 | false =>
  cases hf : flS s with
  | none => rw [(zex hf).1] at h; cases h
  | some n =>
   rw [(zeQ hf).1] at h
   cases h
   exact ⟨n, rfl, zi6 hf⟩
theorem zb2 {items : Bool} : ∀ {l : List Tok} {a : Nat} {x : Int}, (∀ t ∈ l, qG t) -> a < 32 -> zC (fW items) orI ((a : Nat) : Int) l = some x -> ∃ n : Nat, x = ((n : Nat) : Int) /\ 0 < n /\ n < 32
 | [], a, x, hk, ha, h => by cases h
 | [t], a, x, hk, ha, h => by
  have hkt := hk t (by simp)
  by_cases h4 : t.1 = 4
  ·simp only [zC, if_pos h4] at h
   cases hf : fW items t.2.1 with
   | none => rw [hf] at h; cases h
   | some y =>
    rw [hf] at h
    obtain ⟨n, rfl, n1, n2⟩ := znZ hkt.2.1 hf
    obtain ⟨c, c1, c2, c3⟩ := zn0 ha n2 n1
    cases h
    exact ⟨c, c1, c3, c2⟩
  ·simp only [zC, if_neg h4] at h; cases h
 | t :: s :: r, a, x, hk, ha, h => by
  have hkt := hk t (by simp)
  by_cases h4 : t.1 = 4
  ·simp only [zC, if_pos h4] at h
   cases hf : fW items t.2.1 with
   | none => rw [hf] at h; cases h
   | some y =>
    rw [hf] at h
    obtain ⟨n, rfl, n1, n2⟩ := znZ hkt.2.1 hf
    obtain ⟨c, c1, c2, c3⟩ := zn0 ha n2 n1
    simp only at h
    by_cases h1 : s.1 = 1
    ·rw [if_pos h1, c1] at h
     exact zb2 (fun u hu => hk u (by simp [hu])) c2 h
    ·rw [if_neg h1] at h; cases h
  ·simp only [zC, if_neg h4] at h; cases h
theorem ziI {items : Bool} {l q : List Tok} {x : Int} (hk : ∀ t ∈ l, qG t) (h : brS items l = some (x, q)) : ∃ n : Nat, x = ((n : Nat) : Int) /\ n < 32 /\ (items = true -> 0 < n) := by
 cases l with
 | nil => cases h
 | cons a r =>
  unfold brS at h
  simp only at h
  by_cases h2 : a.1 = 2
  ·rw [if_pos h2] at h
   cases hc : ze3 r with
   | none => rw [hc] at h; cases h
   | some pq =>
    obtain ⟨p, q'⟩ := pq
    obtain ⟨z, z1, z2, z3⟩ := xS hc
    rw [hc] at h
    cases p with
    | nil =>
     cases items with
     | true => cases h
     | false => cases h; exact ⟨0, rfl, by omega, fun h => by cases h⟩
    | cons t p =>
     simp only at h
     cases hw : zC (fW items) orI 0 (t :: p) with
     | none => rw [hw] at h; cases h
     | some y =>
      rw [hw] at h
      cases h
      obtain ⟨n, n1, n2, n3⟩ := zb2 (a := 0) (fun u hu => hk u (by rw [z2]; exact List.mem_cons_of_mem _ (List.mem_append_left _ hu))) (by omega) hw
      exact ⟨n, n1, n3, fun _ => n2⟩
  ·rw [if_neg h2] at h; cases h
theorem zhr {o : Option (Int × List Tok)} {x : Int} (h : zmG o = some x) : o = some (x, []) := by
 unfold zmG at h
 split at h
 ·cases h; rfl
 ·cases h
theorem zn9 {n : Nat} (h : n < 32) : zao ((n : Nat) : Int) <= 31 := by
 rw [jl (by omega), UInt8.le_iff_toNat_le]
 simp; omega
theorem znl {r : List Tok} {f : UInt8} {d : List UInt8} (hk : ∀ t ∈ r, qG t) (h : ziD r = some (f, d)) : f <= 31 /\ d.length <= 2000 := by
 match r, hk, h with
 | [], _, h => cases h
 | [t], hk, h =>
  have h : (if t.1 = 6 then some ((0 : UInt8), t.2.1) else none) = some (f, d) := h
  split at h
  ·cases h; exact ⟨by decide, (hk _ (by simp)).2.1⟩
  ·cases h
 | a :: b :: r, hk, h =>
  have h : (match brS false (a :: b :: r) with
   | some (x, [s, d]) => if s.1 = 1 /\ d.1 = 6 then some (zao x, d.2.1) else none
   | _ => none) = some (f, d) := h
  split at h
  ·rename_i x s d' hb
   split at h
   ·cases h
    obtain ⟨n, n1, n2, _⟩ := ziI hk hb
    obtain ⟨pre, hp⟩ := zjU hb
    rw [n1]
    exact ⟨zn9 n2, (hk d' (by rw [hp]; simp)).2.1⟩
   ·cases h
  ·cases h
theorem zo8 {r : List Tok} {x : Int} (hk : ∀ t ∈ r, qG t) (h : itS r = some x) : 1 <= x /\ x <= 31 := by
 match r, hk, h with
 | [], _, h => cases h
 | [t], hk, h =>
  obtain ⟨n, n1, n2, n3⟩ := zb2 (items := true) (l := [t]) (a := 0) hk (by omega) h
  omega
 | a :: b :: r, hk, h =>
  obtain ⟨n, n1, n2, n3⟩ := ziI hk (zhr h)
  have := n3 rfl
  omega
theorem zmU {r : List Tok} {f : UInt8} (hk : ∀ t ∈ r, qG t) (h : zlG r = some f) : f <= 31 := by
 unfold zlG at h
 cases ho : zmG (brS false r) with
 | some x =>
  rw [ho] at h
  cases h
  obtain ⟨n, n1, n2, _⟩ := ziI hk (zhr ho)
  rw [n1]; exact zn9 n2
 | none =>
  rw [ho] at h
  cases hw : zC (fW false) orI 0 r with
  | none => rw [hw] at h; cases h
  | some x =>
   rw [hw] at h
   cases h
   obtain ⟨n, n1, n2, n3⟩ := zb2 (a := 0) hk (by omega) hw
   rw [n1]; exact zn9 n3
theorem zmY {w : List UInt8} {m : Int} {b : Bool} (h : zkq w = some (m, b)) : 0 <= m /\ m <= 2 := by
 have hW : ∀ (u : List UInt8) (c : Bool), mW u c = some (m, b) -> 0 <= m /\ m <= 2 := by
  intro u c h
  unfold mW at h
  revert h
  cases u == wF with
  | true => intro h; cases h; omega
  | false =>
   cases u == wP with
   | true => intro h; cases h; omega
   | false =>
    cases u == wM with
    | true => intro h; cases h; omega
    | false => intro h; cases h
 unfold zkq zke at h
 split at h
 ·exact hW _ _ h
 ·exact hW _ _ h
theorem ziy (b : List UInt8) (hb : b.length <= 2000) (h : (zbS b).2 = true) : ∃ t k m st it mo si fl da, (zbS b).1 = (t, (k, (m, (st, (it, (mo, (si, (fl, da)))))))) /\ t.length <= 2000 /\ VP t k m st it mo si fl da := by
 unfold zbS at h |-
 by_cases hc : 0 < run qA b /\ b[run qA b]? = some 32
 ·rw [if_pos hc] at h |-
  have hdl : (b.drop (run qA b + 1)).length <= 2000 := by rw [List.length_drop]; omega
  have hall := zdY qA b
  have hle := zgW qA b
  have htl : (b.take (run qA b)).length = run qA b := by rw [List.length_take]; omega
  have hT : zbs (b.take (run qA b)) = true := by
   unfold zbs
   rw [hall, Bool.and_true]
   simp only [bne_iff_ne, ne_eq]
   intro e
   rw [e] at htl
   simp at htl; omega
  generalize b.take (run qA b) = tag at h |- hT htl
  cases ht : zaZ (b.drop (run qA b + 1)) 3000 0 with
  | inr a => rw [ht] at h; cases h
  | inl l =>
   obtain ⟨p, e, rfl, he, hk, hpl⟩ := zf0 hdl 3000 0 l (by omega) ht
   rw [ht] at h
   simp only [List.dropLast_concat] at h |-
   cases hs : zjJ tag p with
   | none => rw [hs] at h; cases h
   | some c =>
    have htl2 : tag.length <= 2000 := by omega
    rcases zgB hk hs with ⟨k, h1, h2, rfl⟩ | ⟨m, h1, rfl⟩ | ⟨m, r, f, d, h1, h2, h3, rfl⟩ | ⟨s, st, r, x, h1, h2, h3, h4, rfl⟩ | ⟨s, st, w, r, m, b', f, h1, h2, h3, _, h4, h5, rfl⟩
    ·exact ⟨_, _, _, _, _, _, _, _, _, rfl, htl2, hT, h1, by omega, by simp, by simp, by decide, .inr (.inr (.inr (.inr ⟨h2, rfl, rfl, rfl, rfl, rfl, rfl, rfl⟩)))⟩
    ·exact ⟨_, _, _, _, _, _, _, _, _, rfl, htl2, hT, by omega, by omega, by omega, by simp, by decide, .inl ⟨rfl, rfl, rfl, rfl, rfl, rfl, rfl⟩⟩
    ·obtain ⟨a1, a2⟩ := znl h3 h2
     exact ⟨_, _, _, _, _, _, _, _, _, rfl, htl2, hT, by omega, by omega, by omega, by omega, a1, .inr (.inl ⟨rfl, rfl, rfl, rfl, rfl⟩)⟩
    ·obtain ⟨a1, a2⟩ := zo8 h4 h3
     have := (zdW h2).1
     exact ⟨_, _, _, _, _, _, _, _, _, rfl, htl2, hT, by omega, by omega, by simp, by simp, by decide, .inr (.inr (.inl ⟨rfl, rfl, by intro e; rw [e] at this; simp at this, a1, a2, rfl, rfl, rfl, rfl⟩))⟩
    ·obtain ⟨a1, a2⟩ := zmY h3
     have := (zdW h2).1
     exact ⟨_, _, _, _, _, _, _, _, _, rfl, htl2, hT, by omega, by omega, by simp, by simp, zmU h5 h4, .inr (.inr (.inr (.inl ⟨rfl, rfl, by intro e; rw [e] at this; simp at this, rfl, a1, a2, rfl⟩)))⟩
 ·rw [if_neg hc] at h; cases h
theorem zmD (c : El uS2) : ∃ f : Bool, xZ 3000 c = some (f, ()) /\ (f = true -> c.1.length <= 100 /\ c.2.2.2.1.length <= 60) := by
 unfold xZ
 by_cases h1 : ((c.1.length : Nat) : Int) <= 100
 ·by_cases h2 : ((c.2.2.1.length : Nat) : Int) <= 300
  ·by_cases h3 : ((c.2.2.2.1.length : Nat) : Int) <= 60
   ·rw [decide_eq_true h1, decide_eq_true h2, decide_eq_true h3]; exact ⟨_, rfl, fun _ => ⟨by omega, by omega⟩⟩
   ·rw [decide_eq_true h1, decide_eq_true h2, decide_eq_false h3]; exact ⟨false, rfl, fun h => by cases h⟩
  ·rw [decide_eq_true h1, decide_eq_false h2]; exact ⟨false, rfl, fun h => by cases h⟩
 ·rw [decide_eq_false h1]; exact ⟨false, rfl, fun h => by cases h⟩
theorem zsb (c : El uS2) (b : List UInt8) : zP 3000 c b = some (true, ()) := by
 unfold zP
 obtain ⟨f, hf, hf2⟩ := zmD c
 rw [hf]
 simp only [Option.bind_some]
 cases f with
 | false => rfl
 | true =>
  obtain ⟨l1, l2⟩ := hf2 rfl
  simp only [Bool.not_true, cond_false]
  by_cases h : (2000 : Int) < (((List.length b) : Nat) : Int)
  ·rw [decide_eq_true h]; rfl
  ·rw [decide_eq_false h, cond_false]
   have hb : b.length <= 2000 := by omega
   obtain ⟨t, k, m, st, it, mo, si, fl, da⟩ := c
   simp only at l1 l2
   obtain ⟨v1, e1, i1⟩ := zfG t k m st it mo si fl da (by omega)
   obtain ⟨v2, e2, i2⟩ := zhB t k m st it mo si fl da (by omega) (by omega)
   have hv : v1 = v2 := by rw [Bool.eq_iff_iff, i1, i2]
   subst hv
   rw [zj3 b hb]
   simp only [Option.bind_some, cond_true, e1, e2, beq_self_eq_true]
   cases hp : (zbS b).2 with
   | false => rfl
   | true =>
    obtain ⟨t', k', m', st', it', mo', si', fl', da', he, hl, hV⟩ := ziy b hb hp
    have hs := zkV b hb
    rw [he] at hs
    obtain ⟨w1, f1, j1⟩ := zfG t' k' m' st' it' mo' si' fl' da' hl
    obtain ⟨w2, f2, j2⟩ := zhB t' k' m' st' it' mo' si' fl' da' hl hs
    rw [he]
    simp only [Bool.not_true, cond_false, f1, f2, Option.bind_some, j1.2 hV, j2.2 hV, cond_true]
theorem law (x : El (zbj [uS2, .sl .u8])) (hw : Wf (zbj [uS2, .sl .u8]) x) : ∃ N, zP N x.1 x.2.1 = some (true, ()) := ⟨3000, zsb x.1 x.2.1⟩
end Go.Proofs.Model
