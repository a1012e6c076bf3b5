/- M's operations, sound: builtins, calls; all of them. -/
import Derived.Test.YtflgkiddnmpfbaaGreatDoorMxL
import Derived.Lib.UnsafeStr
set_option linter.unusedVariables false
set_option linter.unusedSimpArgs false
namespace Go.Mx
open Go Go.Gx
section
variable {P : Program} {G : Gh} {B : Nat} {h h' : Heap} {w : World} {op : Op} {ρ : Operand → Value} {e : Operand → Option AV} {r : Rs}

theorem exec_builtin {b : Builtin} {args : Array Operand} {ats : Array TypeId} {dst : Option Tmp} {ty : TypeId} {pos : String} {after : Array Edge} {g : Option (Nat × Bool)} :
    execOp ρ ⟨dst, .call { callee := .builtin b, args := args, argTypes := ats }, ty, pos, after, g⟩ = builtin b ats ty (args.map fun | .const _ => true | _ => false) (args.map ρ) := by
  simp [execOp, resolve, invoke]; rfl

theorem len_sound {t ty : TypeId} {x y : AV} {u : Value} (hr : HR G B h w) (hm : mlen P t x h = some y) (hV : V G x u) : ∃ z, V G y z ∧ ∀ ty (ats : Array TypeId) (us : Array Value), ats[0]? = some t → us[0]? = some u → (Builtin.len_ ats ty us).run P w = .ok z w := by
  unfold mlen at hm
  split at hm
  · rename_i l ht
    cases hm
    refine ⟨_, .int _ _, fun ty ats us h1 h2 => ?_⟩
    have hS := V_str hV
    subst hS
    simp [Builtin.len_, h1, h2, run_underlying ht, vstr, size_mk, goInt]
  · rename_i n el ht
    cases hm
    refine ⟨_, .int _ _, fun ty ats us h1 h2 => ?_⟩
    simp [Builtin.len_, h1, h2, run_underlying ht, goInt]
  · rename_i el ht
    cases hm; cases hV
    refine ⟨_, .int _ _, fun ty ats us h1 h2 => ?_⟩
    simp [Builtin.len_, h1, h2, run_underlying ht, goInt]
  · rename_i el loc off len sz ver clip ht
    cases hm
    refine ⟨_, .int _ _, fun ty ats us h1 h2 => ?_⟩
    cases hV <;> simp [Builtin.len_, h1, h2, run_underlying ht, goInt]
  · rename_i ht
    cases hm; cases hV
    refine ⟨_, .int _ _, fun ty ats us h1 h2 => ?_⟩
    simp [Builtin.len_, h1, h2, run_underlying ht, goInt]
  · rename_i kt et loc ht
    split at hm
    · rename_i es hl
      cases hm
      rcases map_at hr (show mentries (.map loc) h = some es by simp [mentries, hl]) hV with ⟨h0, _⟩ | ⟨loc', r, es', clock, h0, _, hg, hu, hw, hk1, hk2⟩
      · cases h0
      subst hu
      refine ⟨_, .int _ _, fun ty ats us h1 h2 => ?_⟩
      have := hk1.length
      simp at this
      simp [Builtin.len_, h1, h2, run_underlying ht, goInt, MapKept.run_getObj_map hw, this]
    · cases hm
  · cases hm

theorem append_sound {t t2 : TypeId} {s x y : AV} {us ux : Value} (hr : HR G B h w) (hm : mappend P t t2 s x h = some (y, h')) (hS : V G s us) (hX : V G x ux) (ty : TypeId) :
    ∃ w' u G', (Builtin.append_ #[t, t2] ty #[us, ux]).run P w = .ok u w' ∧ Step G G' B h' w w' ∧ V G' y u := by
  unfold mappend at hm
  split at hm
  · rename_i el ht
    split at hm
    · rename_i i hi
      split at hm
      · rename_i z hz
        split at hm
        · rename_i hc
          obtain ⟨hzs, hby⟩ := hc
          split at hm
          · rename_i el2 ht2
            cases hX
            exact app_sound hr hS hm ht hi hz hzs hby (Src.ofNil w ht2 0) .nil
          · rename_i el2 loc off len sz ver clip ht2
            split at hm
            · rename_i hsz
              subst hsz
              split at hm
              · rename_i xs hrd
                have hlen : xs.length = len * i.size := by
                  unfold app at hm
                  split at hm
                  · rename_i hq; exact hq.2.1
                  · cases hm
                have hone : xs.all AV.one = true := by
                  unfold app at hm
                  split at hm
                  · rename_i hq; exact hq.1
                  · cases hm
                cases hX with
                | @sl _ _ _ _ _ cap _ r g1 g2 g3 g4 g5 g6 g7 g8 g9 =>
                  obtain ⟨vs, o1, o2, o3⟩ := rd_sound hr hrd g1 g2 g3
                  exact app_sound hr hS hm ht hi hz hzs hby (Src.ofSlice w ht2 _ len cap vs o2 (fun j u hu => by rw [Addr.add_lit]; exact o3 j u hu) (o1.one hone)) o1
                | @sl0 _ _ _ _ o _ r g1 g2 g3 g6 g9 =>
                  obtain ⟨vs, o1, o2, o3⟩ := rd_sound hr hrd g1 g2 (by omega)
                  obtain rfl : vs = [] := List.eq_nil_of_length_eq_zero (by omega)
                  exact app_sound hr hS hm ht hi hz hzs hby (Src.ofSlice w ht2 _ 0 0 [] (by simp) (fun j u hu => by simp at hu) (by simp)) o1
              · cases hm
            · cases hm
          · rename_i l ht2
            split at hm
            · rename_i hsz
              have hX' := V_str hX
              subst hX'
              have hb : (byteCells ⟨l.toArray⟩) = l.map fun c => Value.int .u8 (c.toNat : Int) := by simp [byteCells]
              have hsrc := Src.ofString w ht2 ⟨l.toArray⟩
              rw [size_mk, hb] at hsrc
              rw [← hsz] at hm hsrc
              exact app_sound hr hS hm ht hi hz hzs hby hsrc (VL_bytes G l)
            · cases hm
          · cases hm
        · cases hm
      · cases hm
    · cases hm
  · cases hm

theorem src_sound {t2 : TypeId} {z n : Nat} {x : AV} {ux : Value} {xs : List AV} (hr : HR G B h w) (hq : msrc P t2 z x h = some (xs, n)) (hX : V G x ux) :
    ∃ vs : List Value, VL G xs vs ∧ vs.length = n * z ∧ (∀ w, (Builtin.lenOf ux).run P w = .ok n w) ∧ ∀ k, k ≤ n → (Builtin.firstCells z k ux).run P w = .ok (vs.take (k * z)).toArray w := by
  unfold msrc at hq
  split at hq
  · cases hq; cases hX
    exact ⟨[], .nil, by simp, fun _ => rfl, fun k hk => by simp [Builtin.firstCells]⟩
  · split at hq
    · rename_i loc off len sz ver clip ht2 hsz
      subst hsz
      split at hq
      · rename_i ys hrd
        cases hq
        cases hX with
        | @sl _ _ _ _ _ cap _ r g1 g2 g3 g4 g5 g6 g7 g8 g9 =>
          obtain ⟨vs, o1, o2, o3⟩ := rd_sound hr hrd g1 g2 g3
          refine ⟨vs, o1, o2, fun _ => rfl, fun k hk => ?_⟩
          have hkm : k * sz ≤ n * sz := Nat.mul_le_mul_right _ hk
          exact run_firstCells_some (P := P) w sz k _ n cap (vs.take (k * sz)) (by rw [List.length_take, o2]; omega) (fun j u hu => by
            rw [Addr.add_lit]
            rw [List.getElem?_take] at hu
            split at hu
            · exact o3 j u hu
            · cases hu)
        | @sl0 _ _ _ _ o _ r g1 g2 g3 g6 g9 =>
          obtain ⟨vs, o1, o2, o3⟩ := rd_sound hr hrd g1 g2 (by omega)
          refine ⟨vs, o1, o2, fun _ => rfl, fun k hk => ?_⟩
          obtain rfl : k = 0 := by omega
          simp only [Nat.zero_mul, List.take_zero]
          exact run_firstCells_some (P := P) w sz 0 _ 0 0 [] (by simp) (fun j u hu => by simp at hu)
      · cases hq
    · cases hq
  · split at hq
    · rename_i l ht2 hz1
      cases hq
      have hX' := V_str hX
      subst hX'
      refine ⟨_, VL_bytes G l, by simp [hz1], fun _ => by simp [Builtin.lenOf, vstr, size_mk], fun k hk => ?_⟩
      subst hz1
      simp only [Builtin.firstCells, vstr, Sem.run_pure, Result.ok.injEq, and_true, Nat.mul_one]
      rw [ByteArray.extract_mk]
      apply Array.ext'
      simp [List.map_take]
    · cases hq
  · cases hq
theorem copy_sound {t t2 : TypeId} {d x y : AV} {ud ux : Value} (hr : HR G B h w) (hm : mcopy P t t2 d x h = some (y, h')) (hD : V G d ud) (hX : V G x ux) (ty : TypeId) :
    ∃ w' u G', (Builtin.copy_ #[t, t2] ty #[ud, ux]).run P w = .ok u w' ∧ Step G G' B h' w w' ∧ V G' y u := by
  unfold mcopy at hm
  split at hm
  · rename_i el ht
    split at hm
    · rename_i z hz
      simp only at hm
      split at hm
      · rename_i xs n hq
        cases hm
        obtain ⟨vs, v1, v2, v3, v4⟩ := src_sound hr hq hX
        cases hD
        refine ⟨w, _, G, ?_, .refl hr, .int _ _⟩
        simp [Builtin.copy_, run_underlying ht, v3, run_sizeOf hz, v4 0 (Nat.zero_le _), goInt]
      · rename_i loc off len sz ver clip xs n hq
        split at hm
        · rename_i hsz
          subst hsz
          obtain ⟨vs, v1, v2, v3, v4⟩ := src_sound hr hq hX
          split at hm
          · rename_i hk
            cases hm
            have hk' : Nat.min n len = 0 := hk
            cases hD <;>
            (refine ⟨w, _, G, ?_, .refl hr, .int _ _⟩
             simp [Builtin.copy_, run_underlying ht, v3, run_sizeOf hz, goInt]
             first
               | (rw [hk', v4 0 (Nat.zero_le _)]; simp [storeCells])
               | (rw [v4 0 (Nat.zero_le _)]; simp [storeCells]))
          · rename_i hk
            split at hm
            · rename_i h2 hw2
              cases hm
              cases hD with
              | @sl _ _ _ _ _ cap _ r g1 g2 g3 g4 g5 g6 g7 g8 g9 =>
                have hkn : Nat.min n len ≤ n := Nat.min_le_left _ _
                obtain ⟨w', hrun, hS⟩ := wr_sound (P := P) hr hw2 g1 g2 g3 (v1.take (min n len * sz))
                refine ⟨w', _, G, ?_, hS, .int _ _⟩
                simp [Builtin.copy_, run_underlying ht, v3, run_sizeOf hz, goInt]
                rw [v4 (Nat.min n len) hkn]
                simp
                rw [show Nat.min n len = min n len from rfl, hrun]
                rfl
              | sl0 => exact absurd (by simp) hk
            · cases hm
        · cases hm
      · cases hm
    · cases hm
  · cases hm

theorem clear_sound {t : TypeId} {x : AV} {ux : Value} (hr : HR G B h w) (hm : mclear P t x h = some h') (hX : V G x ux) (ty : TypeId) :
    ∃ w', (Builtin.clear_ #[t] ty #[ux]).run P w = .ok (.tuple #[]) w' ∧ Step G G B h' w w' := by
  unfold mclear at hm
  split at hm
  · rename_i el ht
    cases hm; cases hX
    exact ⟨w, by simp [Builtin.clear_, run_underlying ht], .refl hr⟩
  · rename_i el loc off len sz ver clip ht
    split at hm
    · rename_i h0
      subst h0
      cases hm
      refine ⟨w, ?_, .refl hr⟩
      cases hX <;> simp [Builtin.clear_, run_underlying ht]
    · rename_i h0
      split at hm
      · rename_i z hz
        split at hm
        · rename_i hsz
          cases hX with
          | @sl _ _ _ _ _ cap _ r g1 g2 g3 g4 g5 g6 g7 g8 g9 =>
            obtain ⟨zu, hzr, hzv, _⟩ := run_zero G hz
            have hzs : zu.cells.size = sz := by have := hzv.cells.length; rw [Array.length_toList] at this; omega
            have hz0 := zeros_sound (m := len * sz) hzv.cells (by omega)
            obtain ⟨w', hrun, hS⟩ := wr_sound (P := P) hr hm g1 g2 g3 hz0
            refine ⟨w', ?_, hS⟩
            have hzc : Builtin.zeroCells zu.cells len = (Array.range (len * sz)).map fun i => zu.cells[i % zu.cells.size]! := by
              unfold Builtin.zeroCells; rw [hzs]
            obtain ⟨l, rfl⟩ : ∃ l, len = l + 1 := ⟨len - 1, by omega⟩
            simp [Builtin.clear_, run_underlying ht, hzr, hzc]
            simp at hrun
            rw [hrun]
            rfl
          | sl0 => exact absurd rfl h0
        · cases hm
      · cases hm
  · rename_i ht
    cases hm; cases hX
    exact ⟨w, by simp [Builtin.clear_, run_underlying ht], .refl hr⟩
  · rename_i kt et loc ht
    split at hm
    · rename_i es hl
      cases hm
      rcases map_at hr (show mentries (.map loc) h = some es by simp [mentries, hl]) hX with ⟨h0, _⟩ | ⟨loc', r, es', clock, h0, _, hg, hu, hw, hk1, hk2⟩
      · cases h0
      cases h0
      subst hu
      have hS := map_turn (clock' := clock) (es2 := []) (es2' := #[]) hr hl hg hw .nil .nil
      refine ⟨_, ?_, hS⟩
      simp [Builtin.clear_, run_underlying ht, MapKept.run_getObj_map hw, MapKept.run_setObj_map _ hw]
    · cases hm
  · cases hm

theorem toArray2 {α : Type} {a : Array α} {x y : α} (h : a.toList = [x, y]) : a = #[x, y] := by apply Array.ext'; simpa using h
theorem toArray1 {α : Type} {a : Array α} {x : α} (h : a.toList = [x]) : a = #[x] := by apply Array.ext'; simpa using h


theorem run_unsafeString {u : TypeId} {loc lim v minv frz : Nat} {n : Int} {cells cs : List AV} {bs : List UInt8} {ats : Array TypeId} {pt : TypeId} {ua : Value} (hr : HR G B h w) (hloc : h[loc]? = some (.row cells v minv frz false (some u)))
    (hp : P.underlying pt = some (.pointer u)) (hc : P.cellsOf u = 1) (hn : 0 < n) (hnm : n.toNat ≤ 140737488355327) (hrd : rd h loc 0 v lim n.toNat = some cs) (hbs : toBytes cs = some bs) (hV : V G (.ptr loc 0 v lim) ua) (ty : TypeId)
    (hcut : ∀ us : Array Value, Builtin.unsafeString_ ats ty us = Builtin.unsafeString_ #[pt, pt] ty us) :
    ∃ w', (Builtin.unsafeString_ ats ty #[ua, .int .i64 n]).run P w = .ok (vstr bs) w' ∧ Step G G B (h.set loc (.row cells v minv (max frz n.toNat) false (some u))) w w' := by
  cases hV with
  | @ptr _ _ _ _ r g1 g2 g3 =>
    obtain ⟨b0, vs, hb, hgv, hv, hR⟩ := hr.get g1
    rw [hloc] at hb; cases hb
    rcases hR with rfl | hR
    · simp at hv
    obtain ⟨c, T, fr, q1, qt, q2, q3, q4⟩ := hR.cell v r hv hR.minv_le
    obtain ⟨us, k1, k2, k3⟩ := rd_sound hr hrd g1 g2 g3
    have hub := toBytes_sound hbs k1
    have hlen : bs.length = n.toNat := by rw [← k2, hub]; simp
    have hl0 : r.lo = 0 := by omega
    have hlim : n.toNat ≤ lim := by
      have hx := hrd
      unfold rd at hx
      rw [hloc] at hx
      simp only at hx
      split at hx
      · rename_i hh; omega
      · cases hx
    obtain rfl := qt _ rfl
    have hsh : w.shape? r.b = some (T, c.size) := by simp [World.shape?, q1]
    have hne : bs ≠ [] := by intro hb; rw [hb] at hlen; simp at hlen; omega
    have hs0 := hR.sh0 v r hv
    have hoff : (0 + r.sh - r.lo) = 0 := by omega
    have hnn : (n : Int) = (bs.length : Int) := by omega
    refine ⟨w.freeze ⟨r.b, 0, none⟩ bs.length, ?_, ?_⟩
    · rw [hcut, hoff, hnn]
      have hcell : ∀ j x, bs[j]? = some x → w.cell? ((⟨r.b, 0, none⟩ : Addr).add j) = some (.int .u8 x.toNat) := fun j x hx => by
        have hq : us[j]? = some (.int .u8 (x.toNat : Int)) := by rw [hub]; simp [hx]
        have hq2 := k3 j _ hq
        rw [hoff] at hq2
        have hq3 : (⟨r.b, 0, none⟩ : Addr).add j = ⟨r.b, j, none⟩ := by cases j <;> simp [Addr.add]
        rw [hq3]
        simpa using hq2
      have h3 := hR.tops v r hv
      exact Lib.run_unsafeString_row w pt pt ty T hp hc r.b c.size hsh bs hne (by omega) (by omega) hcell
    · refine Step.freeze hr hloc g1 hR.minv_le (by omega) (Nat.le_max_left _ _) (by have h3 := hR.tops v r hv; have h4 := hR.frz_le; omega) (fun _ e => e) fun c2 T2 fr2 rt e1 e2 e3 e4 e5 e6 e7 => ?_
      rw [g1] at e2; cases e2
      rw [q1] at e1; cases e1
      have e8 := e7 rfl
      refine ⟨fun j hj hjc => ?_, fun _ => .inr ?_⟩
      · split
        · show ¬ (0 ≤ j ∧ j < 0 + bs.length); omega
        · show ¬ (min fr.1 0 ≤ j ∧ j < max fr.2 (0 + bs.length)); omega
      · split
        · show 0 + bs.length + r.lo ≤ _; omega
        · show max fr.2 (0 + bs.length) + r.lo ≤ _; omega

theorem s_call {c : Call} (hr : HR G B h w) (he : ∀ x v, e x = some v → V G v (ρ x)) (hm : mop P e h (.call c) = some r) : ROk P G B w (.call c) ρ r := by
  obtain ⟨cal, args, ats⟩ := c
  simp only [mop] at hm
  split at hm
  · -- a function value
    rename_i f as hq
    split at hm
    · rename_i f' first cap hf
      cases hm
      have hargs := mevs_sound he hq
      have hV := he _ _ hf
      generalize hu : ρ f = u at hV
      cases hV with
      | @fn _ _ _ vf vc h1 h2 =>
        refine ⟨vf ++ args.toList.map ρ ++ vc, (h1.append hargs).append h2, ?_⟩
        intros
        simp [execOp, resolve, hu, Deferred.ofValue, invoke]
        rw [show vf.toArray ++ (Array.map ρ args ++ vc.toArray) = (vf ++ (List.map ρ args.toList ++ vc)).toArray from by apply Array.ext'; simp]
    · rename_i loc hf
      cases hm
      have hargs := mevs_sound he hq
      have hV := he _ _ hf
      generalize hu : ρ f = u at hV
      cases hV with
      | @yld _ r h1 =>
        refine ⟨args.toList.map ρ, r, hargs, h1, ?_⟩
        intros
        rw [show (args.toList.map ρ).toArray = args.map ρ from by apply Array.ext'; simp]
        simp [execOp, resolve, hu, Deferred.ofValue, invoke]
    · cases hm
  · -- a builtin
    rename_i b as hq
    have hargs := mevs_sound he hq
    have hma : (args.map ρ).toList = args.toList.map ρ := by simp
    unfold mbuiltin at hm
    split at hm
    · rename_i t ts x xs h1
      obtain ⟨y, h2, rfl⟩ := rv_some hm
      generalize hl : args.toList.map ρ = l at hargs hma
      cases hargs with
      | @cons _ u _ us h3 h4 =>
        obtain ⟨z, hz, hrun⟩ := len_sound (ty := 0) hr h2 h3
        refine ROk.quiet hr hz ?_
        intros
        rw [exec_builtin]
        simp only [builtin, Sem.run_bind]
        rw [hrun _ _ _ (by rw [← Array.getElem?_toList, h1]; rfl) (by rw [← Array.getElem?_toList, hma]; rfl)]
        rfl
    · rename_i t t2 s x h1
      obtain ⟨y, h', h2, rfl⟩ := rvh_some hm
      generalize hl : args.toList.map ρ = l at hargs hma
      cases hargs with
      | cons h3 h4 => cases h4 with
        | cons h5 h6 =>
          cases h6
          have ea := toArray2 hma
          have et := toArray2 h1
          obtain ⟨w', u, G', hrun, hS, hV⟩ := append_sound hr h2 h3 h5 0
          refine ⟨w', u, G', ?_, hS, hV⟩
          intros
          rw [exec_builtin, ea, et]
          simp only [builtin, Sem.run_bind]
          have : ∀ ty ty' (ar : Array Value), Builtin.append_ #[t, t2] ty ar = Builtin.append_ #[t, t2] ty' ar := fun _ _ _ => rfl
          rw [this _ 0, hrun]
          rfl
    · rename_i t t2 s x h1
      obtain ⟨y, h', h2, rfl⟩ := rvh_some hm
      generalize hl : args.toList.map ρ = l at hargs hma
      cases hargs with
      | cons h3 h4 => cases h4 with
        | cons h5 h6 =>
          cases h6
          have ea := toArray2 hma
          have et := toArray2 h1
          obtain ⟨w', u, G', hrun, hS, hV⟩ := copy_sound hr h2 h3 h5 0
          refine ⟨w', u, G', ?_, hS, hV⟩
          intros
          rw [exec_builtin, ea, et]
          simp only [builtin, Sem.run_bind]
          have : ∀ ty ty' (ar : Array Value), Builtin.copy_ #[t, t2] ty ar = Builtin.copy_ #[t, t2] ty' ar := fun _ _ _ => rfl
          rw [this _ 0, hrun]
          rfl
    · rename_i k a k' b
      cases hm
      generalize hl : args.toList.map ρ = l at hargs hma
      cases hargs with
      | cons h3 h4 => cases h4 with
        | cons h5 h6 =>
          cases h6
          have := V_int h3
          subst this
          have := V_int h5
          subst this
          have ea := toArray2 hma
          refine ROk.quiet hr (.int _ _) ?_
          intros
          rw [exec_builtin, ea]
          simp [builtin, Builtin.max_, Builtin.max2]
    · rename_i k a k' b
      cases hm
      generalize hl : args.toList.map ρ = l at hargs hma
      cases hargs with
      | cons h3 h4 => cases h4 with
        | cons h5 h6 =>
          cases h6
          have := V_int h3
          subst this
          have := V_int h5
          subst this
          have ea := toArray2 hma
          refine ROk.quiet hr (.int _ _) ?_
          intros
          rw [exec_builtin, ea]
          simp [builtin, Builtin.min_, Builtin.min2]
    · -- cap
      rename_i t ts x h1
      generalize hl : args.toList.map ρ = l at hargs hma
      cases hargs with
      | cons h3 h4 =>
        cases h4
        have ea := toArray1 hma
        have h0 : ats[0]? = some t := by rw [← Array.getElem?_toList, h1]; rfl
        split at hm
        · rename_i e hu
          cases hm
          cases h3
          refine ROk.quiet hr (.int _ _) ?_
          intros
          rw [exec_builtin, ea]
          simp [builtin, Builtin.cap_, h0, run_underlying hu]
          rfl
        · rename_i e loc off len sz ver hu
          cases hm
          cases h3 with
          | sl g1 g2 g3 g4 g5 g6 g7 g8 g9 =>
            obtain rfl := g6 rfl
            refine ROk.quiet hr (.int _ _) ?_
            intros
            rw [exec_builtin, ea]
            simp [builtin, Builtin.cap_, h0, run_underlying hu]
            rfl
          | sl0 g1 g2 g3 g6 g9 =>
            refine ROk.quiet hr (.int _ _) ?_
            intros
            rw [exec_builtin, ea]
            simp [builtin, Builtin.cap_, h0, run_underlying hu]
            rfl
        · cases hm
    · -- unsafe.SliceData
      generalize hl : args.toList.map ρ = l at hargs hma
      cases hargs with
      | cons h3 h4 =>
        cases h4
        have ea := toArray1 hma
        split at hm
        · cases hm
          cases h3
          refine ROk.quiet hr .nilp ?_
          intros
          rw [exec_builtin, ea]
          simp only [builtin, Sem.run_bind, Lib.run_unsafeSliceData_nil]
          rfl
        · split at hm
          · rename_i hlt
            cases hm
            cases h3 with
            | @sl _ _ _ _ _ cp _ _ g1 g2 g3 g4 g5 g6 g7 g8 g9 =>
              have hcp : cp ≠ 0 := by omega
              refine ROk.quiet hr (.ptr g1 g2 g3) ?_
              intros
              rw [exec_builtin, ea]
              simp only [builtin, Sem.run_bind, Lib.run_unsafeSliceData_row _ _ _ _ _ _ hcp]
              rfl
            | sl0 g1 g2 g3 g6 g9 => omega
          · cases hm
        · cases hm
    · -- unsafe.String
      rename_i pt ts x n h1
      generalize hl : args.toList.map ρ = l at hargs hma
      cases hargs with
      | cons h3 h4 => cases h4 with
        | cons h5 h6 =>
          cases h6
          have := V_int h5
          subst this
          have ea := toArray2 hma
          have h0 : ats[0]? = some pt := by rw [← Array.getElem?_toList, h1]; rfl
          have hcut : ∀ ty (us : Array Value), Builtin.unsafeString_ ats ty us = Builtin.unsafeString_ #[pt, pt] ty us := by
            intro ty us
            unfold Builtin.unsafeString_
            rw [h0]
            rfl
          split at hm
          · split at hm
            · rename_i hn
              subst hn
              cases hm
              cases h3
              refine ROk.quiet hr (.str []) ?_
              intros
              rw [exec_builtin, ea]
              simp only [builtin, Sem.run_bind, hcut, Lib.run_unsafeString_none]
              rfl
            · cases hm
          · rename_i u loc off ver lim hp
            split at hm
            · rename_i hn
              subst hn
              cases hm
              cases h3
              refine ROk.quiet hr (.str []) ?_
              intros
              rw [exec_builtin, ea]
              simp only [builtin, Sem.run_bind, hcut, Lib.run_unsafeString_none]
              rfl
            · split at hm
              · rename_i cells v minv frz T hloc
                split at hm
                · rename_i hq
                  obtain ⟨rfl, rfl, hc1, hn0, hnm, rfl⟩ := hq
                  split at hm
                  · rename_i cs hrd
                    split at hm
                    · rename_i bs hbs
                      cases hm
                      obtain ⟨w', hrun, hS⟩ := run_unsafeString hr hloc hp hc1 hn0 hnm hrd hbs h3 0 (hcut 0)
                      refine ⟨w', _, G, ?_, hS, .str bs⟩
                      intros
                      rw [exec_builtin, ea]
                      simp only [builtin, Sem.run_bind]
                      have : ∀ ty ty' (ar : Array Value), Builtin.unsafeString_ ats ty ar = Builtin.unsafeString_ ats ty' ar := fun _ _ _ => rfl
                      rw [this _ 0, hrun]
                      rfl
                    · cases hm
                  · cases hm
                · cases hm
              · cases hm
          · cases hm
    · rename_i t x h1
      split at hm
      · rename_i h' h2
        cases hm
        generalize hl : args.toList.map ρ = l at hargs hma
        cases hargs with
        | cons h3 h4 =>
          cases h4
          have ea := toArray1 hma
          have et := toArray1 h1
          obtain ⟨w', hrun, hS⟩ := clear_sound hr h2 h3 0
          refine ⟨w', .tuple #[], G, ?_, hS, .tup .nil⟩
          intros
          rw [exec_builtin, ea, et]
          simp only [builtin, Sem.run_bind]
          have : ∀ ty ty' (ar : Array Value), Builtin.clear_ #[t] ty ar = Builtin.clear_ #[t] ty' ar := fun _ _ _ => rfl
          rw [this _ 0, hrun]
          rfl
      · cases hm
    · rename_i t t2 m k h1
      split at hm
      · rename_i h' h2
        cases hm
        generalize hl : args.toList.map ρ = l at hargs hma
        cases hargs with
        | cons h3 h4 => cases h4 with
          | cons h5 h6 =>
            cases h6
            have ea := toArray2 hma
            have et := toArray2 h1
            obtain ⟨w', hrun, hS⟩ := run_delete (ty := 0) (t2 := t2) hr h2 h3 h5
            refine ⟨w', .tuple #[], G, ?_, hS, .tup .nil⟩
            intros
            rw [exec_builtin, ea, et]
            simp only [builtin, Sem.run_bind]
            have : ∀ ty ty' (ar : Array Value), Builtin.delete_ #[t, t2] ty ar = Builtin.delete_ #[t, t2] ty' ar := fun _ _ _ => rfl
            rw [this _ 0, hrun]
            rfl
      · cases hm
    · cases hm
  · cases hm

/-- Every operation of M is sound. -/
theorem s_defer {c : Call} (hr : HR G B h w) (he : ∀ x v, e x = some v → V G v (ρ x)) (hm : mop P e h (.defer c) = some r) : ROk P G B w (.defer c) ρ r := by
  obtain ⟨cal, args, ats⟩ := c
  simp only [mop] at hm
  split at hm
  · rename_i f as hq
    split at hm
    · rename_i f' first cap hf
      cases hm
      have hargs := mevs_sound he hq
      have hV := he _ _ hf
      generalize hu : ρ f = u at hV
      cases hV with
      | @fn _ _ _ vf vc h1 h2 =>
        refine ⟨vf ++ args.toList.map ρ, vc, h1.append hargs, h2, ?_⟩
        intros
        simp [execOp, resolve, hu, Deferred.ofValue]
    · cases hm
  · cases hm
theorem mop_sound (hr : HR G B h w) (he : ∀ x v, e x = some v → V G v (ρ x)) (hm : mop P e h op = some r) : ROk P G B w op ρ r := by
  cases op
  case move => exact s_move hr he hm
  case assign => exact s_assign hr he hm
  case pick => exact s_pick hr he hm
  case alloc => exact s_alloc hr hm
  case box => exact s_box hr he hm
  case build => exact s_build hr he hm
  case buildSlice => exact s_buildSlice hr he hm
  case insert => exact s_insert hr he hm
  case load => exact s_load hr he hm
  case store => exact s_store hr he hm
  case nilCheck => exact s_nilCheck hr he hm
  case binOp => exact s_binOp hr he hm
  case unOp => exact s_unOp hr he hm
  case convert => exact s_convert hr he hm
  case makeInterface => exact s_makeInterface hr he hm
  case makeFunc fn a b => cases fn with
    | func f => exact s_makeFunc hr he hm
    | _ => simp [mop] at hm
  case makeMap t o => cases o with
    | none => exact s_makeMap hr hm
    | some x => simp [mop] at hm
  case makeSlice => exact s_makeSlice hr he hm
  case slice => exact s_slice hr he hm
  case fieldAddr => exact s_fieldAddr hr he hm
  case field => exact s_field hr he hm
  case indexAddr => exact s_indexAddr hr he hm
  case index => exact s_index hr he hm
  case lookup => exact s_lookup hr he hm
  case mapUpdate => exact s_mapUpdate hr he hm
  case extract => exact s_extract hr he hm
  case typeAssert => exact s_typeAssert hr he hm
  case range => exact s_range hr he hm
  case next => exact s_next hr he hm
  case call => exact s_call hr he hm
  case defer => exact s_defer hr he hm
  all_goals simp [mop] at hm
end
end Go.Mx
