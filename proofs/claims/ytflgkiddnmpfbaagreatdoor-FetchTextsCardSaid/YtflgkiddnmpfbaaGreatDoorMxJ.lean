/- M's operations, sound: composite values, conversions. -/
import Derived.Test.YtflgkiddnmpfbaaGreatDoorMxI
import Derived.Laws.MakeOwn
set_option linter.unusedVariables false
set_option linter.unusedSimpArgs false
namespace Go.Mx
open Go Go.Gx
section
variable {P : Program} {G : Gh} {B : Nat} {h : Heap} {w : World} {op : Op} {ρ : Operand → Value} {e : Operand → Option AV} {r : Rs}

theorem foldl_splice (off : Nat) : ∀ (l : List Value) (k : Nat) (cells : Array Value), off + k + l.length ≤ cells.size →
    ((l.zipIdx k).foldl (fun cs (p : Value × Nat) => cs.setIfInBounds (off + p.2) p.1) cells).toList = cells.toList.take (off + k) ++ l ++ cells.toList.drop (off + k + l.length)
  | [], k, cells, _ => by simp
  | v :: l, k, cells, hl => by
    simp only [List.zipIdx_cons, List.foldl_cons]
    rw [foldl_splice off l (k + 1) _ (by simp at hl ⊢; omega)]
    simp only [List.length_cons] at hl ⊢
    rw [Array.toList_setIfInBounds, show off + (k + 1) = off + k + 1 from by omega, List.take_add_one, List.take_set_of_le (by omega), List.getElem?_set_self (by simp; omega), List.drop_set_of_lt (by omega)]
    simp; congr 1; omega

theorem fill_sound {place : Nat → Option (Nat × Nat)} : ∀ {parts : List (Nat × AV)} {cells cells' : List AV} {us : List Value} {vs : List Value}, mfill place cells parts = some cells' → VL G cells us → VL G (parts.map (·.2)) vs →
    ∃ us', Instr.fill place us.toArray ((parts.map (·.1)).zip vs) = some us'.toArray ∧ VL G cells' us'
  | [], cells, cells', us, vs, h, hx, hp => by
    cases h
    exact ⟨us, by simp [Instr.fill], hx⟩
  | (i, v) :: rest, cells, cells', us, vs, h, hx, hp => by
    cases hp with
    | @cons _ u _ us2 hv ht =>
    unfold mfill at h
    split at h
    · cases h
    · rename_i off size hpl
      split at h
      · rename_i hc
        obtain ⟨hc1, hc2⟩ := hc
        have hcells := hv.cells
        have hcl := hcells.length
        have hul := hx.length
        have hsz : u.cells.size = size := by rw [← Array.length_toList, hcl]; exact hc1
        obtain ⟨us', h1, h2⟩ := fill_sound h (((hx.take off).append hcells).append (hx.drop (off + size))) ht
        refine ⟨us', ?_, h2⟩
        simp only [List.map_cons, List.zip_cons_cons, Instr.fill, hpl]
        rw [if_neg (by simp [hsz]; omega)]
        rw [← h1]
        congr 1
        apply Array.ext'
        rw [← Array.foldl_toList, Array.toList_zipIdx]
        have := foldl_splice off u.cells.toList 0 us.toArray (by simp [hsz]; omega)
        simp only [Nat.add_zero, Array.length_toList, hsz] at this
        rw [this]
      · cases h

theorem places_sound : ∀ {fs : List Field} {ps : List (Nat × Nat)}, mplaces P fs = some ps → ∀ w, (fs.mapM fun f => (do pure (f.offset, ← sizeOf f.type) : Sem (Nat × Nat))).run P w = .ok ps w
  | [], _, h, w => by cases h; rfl
  | f :: fs, ps, h, w => by
    unfold mplaces at h
    split at h
    · rename_i n ps' h1 h2
      cases h
      simp only [List.mapM_cons, Sem.run_bind, run_sizeOf h1, Result.andThen_ok, Sem.run_pure, places_sound h2 w]
    · cases h

theorem mparts_zip : ∀ {ps : List (Nat × AV)} {l : List (Nat × Operand)}, ps.map (·.1) = l.map (·.1) → (ps.map (·.1)).zip (l.map fun p => ρ p.2) = l.map fun p => (p.1, ρ p.2)
  | [], [], _ => rfl
  | [], _ :: _, h => by simp at h
  | _ :: _, [], h => by simp at h
  | p :: ps, q :: l, h => by
    simp only [List.map_cons, List.cons.injEq] at h
    simp only [List.map_cons, List.zip_cons_cons, h.1, mparts_zip h.2]

theorem s_build {t : TypeId} {parts : Array (Nat × Operand)} (hr : HR G B h w) (he : ∀ x v, e x = some v → V G v (ρ x)) (hm : mop P e h (.build t parts) = some r) : ROk P G B w (.build t parts) ρ r := by
  simp only [mop] at hm
  split at hm
  · rename_i ps hps
    obtain ⟨v, h1, rfl⟩ := rv_some hm
    obtain ⟨hp1, hp2⟩ := mparts_sound he hps
    have hzip := mparts_zip (ρ := ρ) hp1
    have hparts : (parts.map fun (i, x) => (i, ρ x)).toList = parts.toList.map fun p => (p.1, ρ p.2) := by simp
    unfold mbuild at h1
    split at h1
    · rename_i z fs hz hd
      split at h1
      · rename_i pl hpl
        split at h1
        · rename_i cs hf
          cases h1
          obtain ⟨zu, hzr, hzv, _⟩ := run_zero G hz
          obtain ⟨us', hfu, hvu⟩ := fill_sound hf hzv.cells hp2
          refine ROk.quiet hr (.agg hvu) ?_
          intros
          have hmap : ((fs.mapM fun f => (do pure (f.offset, ← sizeOf f.type) : Sem (Nat × Nat))).run P w) = .ok pl.toArray w := by
            rw [Array.mapM_eq_mapM_toList, Sem.run_map, places_sound hpl]; rfl
          simp only [execOp, Instr.build, Sem.run_bind, hzr, Result.andThen_ok, run_underlying hd, hmap, hparts]
          rw [hzip] at hfu
          have : Instr.fill (fun x => pl.toArray[x]?) zu.cells (parts.toList.map fun p => (p.1, ρ p.2)) = some us'.toArray := by
            rw [← hfu]; simp
          rw [this]; rfl
        · cases h1
      · cases h1
    · rename_i z len el hz hd
      split at h1
      · rename_i n hn
        split at h1
        · rename_i cs hf
          cases h1
          obtain ⟨zu, hzr, hzv, _⟩ := run_zero G hz
          obtain ⟨us', hfu, hvu⟩ := fill_sound hf hzv.cells hp2
          refine ROk.quiet hr (.agg hvu) ?_
          intros
          simp only [execOp, Instr.build, Sem.run_bind, hzr, Result.andThen_ok, run_underlying hd, run_sizeOf hn, hparts]
          rw [hzip] at hfu
          have : Instr.fill (fun i => some (i * n, n)) zu.cells (parts.toList.map fun p => (p.1, ρ p.2)) = some us'.toArray := by
            rw [← hfu]
          rw [this]; rfl
        · cases h1
      · cases h1
    · cases h1
  · cases hm

theorem zeros_sound {z : List AV} {zu : Array Value} {m : Nat} (hz : VL G z zu.toList) (hpos : 0 < z.length) : VL G (mzeros z m) ((Array.range m).map fun i => zu[i % zu.size]!).toList := by
  have hl := hz.length
  rw [Array.length_toList] at hl
  refine VL.of_get (by simp [mzeros]) fun i x u hx hu => ?_
  unfold mzeros at hx
  rw [List.getElem?_map] at hx
  rw [Array.getElem?_toList, Array.getElem?_map] at hu
  by_cases hi : i < m
  · rw [List.getElem?_range hi] at hx
    simp [hi] at hx hu
    have hmod : i % z.length < z.length := Nat.mod_lt _ hpos
    obtain ⟨u', h1, h2⟩ := hz.get (List.getElem?_eq_getElem hmod)
    rw [Array.getElem?_toList] at h1
    rw [← hl] at h1
    have hm2 : i % zu.size < zu.size := Nat.mod_lt _ (by omega)
    rw [Array.getElem?_eq_getElem hm2] at h1
    cases h1
    rw [List.getElem?_eq_getElem hmod] at hx
    simp at hx
    subst hx
    rw [getElem!_pos zu _ hm2] at hu
    subst hu
    exact h2
  · simp [hi] at hu

theorem s_buildSlice {t : TypeId} {len : Nat} {parts : Array (Nat × Operand)} (hr : HR G B h w) (he : ∀ x v, e x = some v → V G v (ρ x)) (hm : mop P e h (.buildSlice t len parts) = some r) : ROk P G B w (.buildSlice t len parts) ρ r := by
  simp only [mop] at hm
  split at hm
  · rename_i ps hps
    obtain ⟨v, h', h1, rfl⟩ := rvh_some hm
    obtain ⟨hp1, hp2⟩ := mparts_sound he hps
    have hzip := mparts_zip (ρ := ρ) hp1
    have hparts : (parts.map fun (i, x) => (i, ρ x)).toList = parts.toList.map fun p => (p.1, ρ p.2) := by simp
    unfold mbuildSlice at h1
    split at h1
    · rename_i el hd
      split at h1
      · rename_i n z hn hz
        split at h1
        · rename_i hc
          obtain ⟨hc1, hc2⟩ := hc
          split at h1
          · rename_i cs hf
            cases h1
            obtain ⟨zu, hzr, hzv, _⟩ := run_zero G hz
            obtain ⟨us', hfu, hvu⟩ := fill_sound hf (zeros_sound (m := len * (n + 1)) hzv.cells (by omega)) hp2
            have hcl : cs.length = len * (n + 1) := by
              have h2 := hvu.length
              have : ∀ {place : Nat → Option (Nat × Nat)} {parts : List (Nat × AV)} {cells cells' : List AV}, mfill place cells parts = some cells' → cells'.length = cells.length := by
                intro place parts
                induction parts with
                | nil => intro cells cells' h; cases h; rfl
                | cons p parts ih =>
                  intro cells cells' h
                  unfold mfill at h
                  split at h
                  · cases h
                  · split at h
                    · rename_i hq
                      rw [ih h]
                      simp only [List.length_append, List.length_take, List.length_drop]; omega
                    · cases h
              rw [this hf]; simp [mzeros]
            have hS := Step.newRow (c := us'.toArray) (T := el) (w' := w.alloc (.cells us'.toArray el)) hr hvu (fun p hp => by rw [List.getElem?_toArray])
              (heap_alloc_new w _) (by simp) (fun b hb => (Keep.alloc [] w _).block b hb (by simp)) rfl rfl rfl
            refine ⟨_, .slice (some ⟨w.heap.size, 0, none⟩) len len, _, ?_, hS, ?_⟩
            · intros
              rw [hzip] at hfu
              have hfl : Instr.fill (fun i => some (i * (n + 1), n + 1)) ((Array.range (len * (n + 1))).map (fun i => zu.cells[i % zu.cells.size]!)) (parts.toList.map fun p => (p.1, ρ p.2)) = some us'.toArray := by
                rw [← hfu]
              have hrun : (Instr.buildSlice t len (parts.map fun (i, x) => (i, ρ x))).run P w = .ok (.slice (some ⟨w.heap.size, 0, none⟩) len len) (w.alloc (.cells us'.toArray el)) := by
                unfold Instr.buildSlice
                simp only [Sem.run_bind, run_underlying hd, Result.andThen_ok, run_sizeOf hn, hparts, Nat.succ_eq_add_one, gt_iff_lt]
                rw [if_neg (by omega)]
                by_cases h0 : len * (n + 1) = 0
                · rw [h0] at hfl
                  have h00 : ((Array.range 0).map (fun x => (#[] : Array Value)[x % (#[] : Array Value).size]!)) = (Array.range 0).map (fun i => zu.cells[i % zu.cells.size]!) := by simp
                  simp only [h0, if_true, Sem.run_bind, Sem.run_pure, Result.andThen_ok, h00, hfl]
                  simp [newRow]
                · simp only [if_neg h0, Sem.run_bind, Sem.run_pure, Result.andThen_ok, hzr, hfl]
                  simp [newRow]
              simp only [execOp, Sem.run_bind, hrun, Result.andThen_ok, Sem.run_pure]
            · rw [← hr.len]
              exact .sl (r := ⟨w.heap.size, 0, cs.length, _, 0⟩) (by rw [at_new]; rfl) (Nat.le_refl _) (by simp [hcl]) (Nat.le_refl _) (by simp; rw [hvu.length, hcl]; exact Nat.le_refl _) (fun e => by cases e) (fun _ => by simp [hcl]) (by have : len ≤ len * (n + 1) := Nat.le_mul_of_pos_right _ (by omega); simp only [maxLen]; omega) (by omega)
          · cases h1
        · cases h1
      · cases h1
    · cases h1
  · cases hm

theorem s_makeSlice {t : TypeId} {l c : Operand} (hr : HR G B h w) (he : ∀ x v, e x = some v → V G v (ρ x)) (hm : mop P e h (.makeSlice t l c) = some r) : ROk P G B w (.makeSlice t l c) ρ r := by
  simp only [mop] at hm
  split at hm
  · rename_i a b ha hb
    obtain ⟨v, h', h1, rfl⟩ := rvh_some hm
    unfold mmakeSlice at h1
    split at h1
    · rename_i el k1 lv k2 cv hd
      split at h1
      · rename_i i z hi hz
        split at h1
        · rename_i hc
          obtain ⟨c1, c2, c3, c4, c5, c6⟩ := hc
          cases h1
          obtain ⟨zu, hzr, hzv, i', hi', hzi⟩ := run_zero G hz
          have hL := V_int (he _ _ ha)
          have hCv := V_int (he _ _ hb)
          obtain ⟨ln, rfl⟩ := Int.eq_ofNat_of_zero_le c1
          obtain ⟨cn, rfl⟩ := Int.eq_ofNat_of_zero_le (Int.le_trans c1 c2)
          have hlc : ln ≤ cn := by omega
          have hcm : cn < 549755813888 := by omega
          have hby : (i.bytes : Int) * (cn : Int) ≤ 281474976710656 := by
            have h2 : i.bytes * cn ≤ 256 * 549755813888 := Nat.mul_le_mul c4 (by omega)
            have h3 : ((i.bytes * cn : Nat) : Int) ≤ 281474976710656 := by omega
            rwa [Int.natCast_mul] at h3
          have hrun := run_make (P := P) w t el i zu hd hi (by rw [hi] at hi'; cases hi'; exact hzi) k1 k2 (ln : Int) (cn : Int) c1 c2 hby (by omega)
          simp only [Int.toNat_natCast] at hrun ⊢
          have hzs := zeros_sound (m := cn * i.size) hzv.cells (by omega)
          have hmc : ((Array.range (cn * i.size)).map fun j => zu.cells[j % zu.cells.size]!) = madeCells zu.cells (cn * i.size) := rfl
          rw [hmc] at hzs
          have hpre : VL G (mzeros z.cells (ln * i.size)) ((madeCells zu.cells (cn * i.size)).toList.take (ln * i.size)) := by
            have := hzs.take (ln * i.size)
            rwa [show (mzeros z.cells (cn * i.size)).take (ln * i.size) = mzeros z.cells (ln * i.size) from by
              unfold mzeros
              rw [← List.map_take, List.take_range, Nat.min_eq_left (Nat.mul_le_mul_right _ hlc)]] at this
          have hml : (mzeros z.cells (ln * i.size)).length = ln * i.size := by simp [mzeros]
          have hms : (madeCells zu.cells (cn * i.size)).size = cn * i.size := size_madeCells _ _
          have hS := Step.newRow (c := madeCells zu.cells (cn * i.size)) (T := el) (w' := w.alloc (.cells (madeCells zu.cells (cn * i.size)) el)) hr hpre
            (fun p hp => by rw [List.getElem?_take_of_lt (by omega), Array.getElem?_toList])
            (heap_alloc_new w _) (by simp) (fun b hb => (Keep.alloc [] w _).block b hb (by simp)) rfl rfl rfl
          refine ⟨_, .slice (some ⟨w.heap.size, 0, none⟩) ln cn, _, ?_, hS, ?_⟩
          · intros
            simp only [execOp, hL, hCv, Sem.run_bind, hrun, Result.andThen_ok, Sem.run_pure]
          · rw [← hr.len]
            have hmm := Nat.mul_le_mul_right i.size hlc
            exact .sl (r := ⟨w.heap.size, 0, (mzeros z.cells (ln * i.size)).length, _, 0⟩) (by rw [at_new]; rfl) (Nat.le_refl _) (by simp only [hml]; omega) hlc (by simp only [hms]; omega) (fun e => by cases e) (fun _ => by simp only [hml]; omega) (by simp only [maxLen]; omega) c5
        · cases h1
      · cases h1
    · cases h1
  · cases hm
end
end Go.Mx
