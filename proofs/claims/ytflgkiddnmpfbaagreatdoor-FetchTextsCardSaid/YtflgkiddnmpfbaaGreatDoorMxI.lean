/- M's operations, sound: slices of slices; loads, stores, new variables. -/
import Derived.Test.YtflgkiddnmpfbaaGreatDoorMxH
set_option linter.unusedVariables false
set_option linter.unusedSimpArgs false
namespace Go.Mx
open Go Go.Gx
section
variable {P : Program} {G : Gh} {B : Nat} {h : Heap} {w : World} {op : Op} {ρ : Operand → Value} {e : Operand → Option AV} {r : Rs}

theorem mbound_sound {o : Option Operand} {a : Option Int} (he : ∀ x v, e x = some v → V G v (ρ x)) (hb : mbound e o = some a) : ∃ k, o.map ρ = a.map fun n => Value.int k n := by
  unfold mbound at hb
  split at hb
  · cases hb; exact ⟨.i64, rfl⟩
  · rename_i x
    split at hb
    · rename_i k n hx
      cases hb
      exact ⟨k, by simp [V_int (he _ _ hx)]⟩
    · cases hb

theorem run_bound {k : IntKind} {n : Int} {y : Nat} {c : BoundsCode} (h0 : 0 ≤ n) (h1 : n ≤ y) (w : World) : (Instr.sliceBound (.int k n) y c).run P w = .ok n.toNat w := by
  simp [Instr.sliceBound, asIntOf, h0, h1]
theorem run_bounds {isSlice : Bool} {len cap : Nat} {k1 k2 : IntKind} {lo hi : Option Int} (h1 : 0 ≤ lo.getD 0) (h2 : lo.getD 0 ≤ hi.getD len) (h3 : hi.getD len ≤ cap) (w : World) :
    (Instr.sliceBounds isSlice len cap (lo.map fun n => Value.int k1 n) (hi.map fun n => Value.int k2 n) none).run P w = .ok ((lo.getD 0).toNat, (hi.getD len).toNat, cap) w := by
  cases lo <;> cases hi <;> simp at h1 h2 h3 <;> simp [Instr.sliceBounds]
  · rw [run_bound h2 (by omega)]; rfl
  · rw [run_bound h1 (by omega)]; rfl
  · rw [run_bound (by omega) (by omega)]; simp; rw [run_bound h1 (by omega)]; rfl
theorem run_boundsM {isSlice : Bool} {len cap : Nat} {k1 k2 k3 : IntKind} {lo hi : Option Int} {m : Int} (h1 : 0 ≤ lo.getD 0) (h2 : lo.getD 0 ≤ hi.getD len) (h3 : hi.getD len ≤ cap) (hm : m = hi.getD len) (hs : hi.isSome = true) (w : World) :
    (Instr.sliceBounds isSlice len cap (lo.map fun n => Value.int k1 n) (hi.map fun n => Value.int k2 n) ((some m).map fun n => Value.int k3 n)).run P w = .ok ((lo.getD 0).toNat, (hi.getD len).toNat, (hi.getD len).toNat) w := by
  cases hi with
  | none => cases hs
  | some b =>
    simp at h2 h3 hm
    subst hm
    cases lo <;> simp at h1 h2 <;> simp [Instr.sliceBounds]
    · rw [run_bound h2 h3]; simp; rw [run_bound h2 (by omega)]; rfl
    · rw [run_bound (by omega) h3]; simp; rw [run_bound (by omega) (by omega)]; simp; rw [run_bound h1 (by omega)]; rfl

theorem s_slice {t : TypeId} {x : Operand} {lo hi mx : Option Operand} (hr : HR G B h w) (he : ∀ x v, e x = some v → V G v (ρ x)) (hm : mop P e h (.slice t x lo hi mx) = some r) : ROk P G B w (.slice t x lo hi mx) ρ r := by
  simp only [mop] at hm
  split at hm
  · rename_i xv a b c hx ha hb hc
    obtain ⟨v, h1, rfl⟩ := rv_some hm
    have hV := he _ _ hx
    obtain ⟨k1, hlo⟩ := mbound_sound he ha
    obtain ⟨k2, hhi⟩ := mbound_sound he hb
    obtain ⟨k3, hmx⟩ := mbound_sound he hc
    have fin : ∀ {u : Value}, V G v u → (Instr.sliceAt t (ρ x) (a.map fun n => Value.int k1 n) (b.map fun n => Value.int k2 n) (c.map fun n => Value.int k3 n)).run P w = .ok u w → ROk P G B w (.slice t x lo hi mx) ρ (.val v h) := by
      intro u hu hrun
      refine ROk.quiet hr hu ?_
      intros
      simp only [execOp, hlo, hhi, hmx, Sem.run_bind, hrun, Result.andThen_ok, Sem.run_pure]
    unfold mslice at h1
    split at h1
    · -- a string
      rename_i l hd
      simp only at h1
      split at h1
      · rename_i hq
        obtain ⟨q0, q1, q2, q3⟩ := hq
        cases h1
        obtain rfl : c = none := by simpa using q0
        have hS := V_str hV
        refine fin (.str _) ?_
        have hbd := run_bounds (P := P) (isSlice := false) (len := l.length) (cap := l.length) (k1 := k1) (k2 := k2) q1 q2 q3 w
        rw [hS]
        unfold vstr
        simp only [Instr.sliceAt, Sem.run_bind, run_underlying hd, Result.andThen_ok, Instr.slice, Option.map_none, Option.isSome_none, Bool.false_eq_true, if_false, size_mk, Sem.run_pure, hbd, ByteArray.extract_mk]
      · cases h1
    · -- nil
      rename_i el hd
      split at h1
      · rename_i hq
        obtain ⟨q1, q2, q3, q4, q5⟩ := hq
        cases h1
        obtain ⟨n, hn⟩ := Option.isSome_iff_exists.1 q5
        generalize hu : ρ x = u at hV
        cases hV
        refine fin .nils ?_
        rw [hu]
        cases c with
        | none =>
          have hbd := run_bounds (P := P) (isSlice := true) (len := 0) (cap := 0) (k1 := k1) (k2 := k2) (lo := a) (hi := b) (by omega) (by simp; omega) (by simp; omega) w
          simp only [Instr.sliceAt, Sem.run_bind, run_underlying hd, Result.andThen_ok, Instr.slice, Option.map_none, hbd, run_sizeOf hn, Sem.run_pure]
          rw [q1, show b.getD ((0 : Nat) : Int) = 0 from q2]; simp
        | some m =>
          have hbd := run_boundsM (P := P) (isSlice := true) (len := 0) (cap := 0) (k1 := k1) (k2 := k2) (k3 := k3) (lo := a) (hi := b) (m := m) (by omega) (by simp; omega) (by simp; omega) (by simp at q3; simp; omega) (q4 rfl) w
          simp only [Instr.sliceAt, Sem.run_bind, run_underlying hd, Result.andThen_ok, Instr.slice, hbd, run_sizeOf hn, Sem.run_pure]
          rw [q1, show b.getD ((0 : Nat) : Int) = 0 from q2]; simp
      · cases h1
    · -- a slice
      rename_i el loc off len sz ver clip hd
      split at h1
      · rename_i n hn
        simp only at h1
        split at h1
        · rename_i hq
          obtain ⟨rfl, q1, q2, q3⟩ := hq
          split at h1
          · -- s[a:b]
            split at h1
            · cases h1
            · rename_i hcl
              cases h1
              generalize hu : ρ x = u at hV
              cases hV with
              | @sl _ _ _ _ _ cap _ r g1 g2 g3 g4 g5 g6 g7 g8 g9 =>
                have hbd := run_bounds (P := P) (isSlice := true) (len := len) (cap := cap) (k1 := k1) (k2 := k2) q1 q2 (by omega) w
                have hab : (a.getD 0).toNat ≤ (b.getD len).toNat := by omega
                have hbl : (b.getD len).toNat ≤ len := by omega
                have hm1 : (a.getD 0).toNat * n ≤ (b.getD len).toNat * n := Nat.mul_le_mul_right _ hab
                have hm2 : (b.getD len).toNat * n ≤ len * n := Nat.mul_le_mul_right _ hbl
                have hm3 : len * n ≤ cap * n := Nat.mul_le_mul_right _ g4
                refine fin (u := .slice (some (if cap = (a.getD 0).toNat then ⟨r.b, off + r.sh - r.lo, none⟩ else ⟨r.b, off + r.sh - r.lo + (a.getD 0).toNat * n, none⟩)) ((b.getD len).toNat - (a.getD 0).toNat) (cap - (a.getD 0).toNat)) ?_ ?_
                · by_cases hz : cap = (a.getD 0).toNat
                  · rw [if_pos hz, show (b.getD len).toNat - (a.getD 0).toNat = 0 from by omega, show cap - (a.getD 0).toNat = 0 from by omega]
                    refine .sl0 g1 (by omega) (by omega) (fun hc => ?_) g9
                    have := g7 hc
                    rw [← hz]; exact this
                  · rw [if_neg hz]
                    have : off + r.sh - r.lo + (a.getD 0).toNat * n = off + (a.getD 0).toNat * n + r.sh - r.lo := by omega
                    rw [this]
                    refine .sl g1 (by omega) ?_ (by omega) ?_ (fun hc => ?_) (fun hc => ?_) (by omega) g9
                    · rw [Nat.sub_mul]; omega
                    · rw [Nat.sub_mul]; omega
                    · have := g6 hc
                      have hbb : b.getD len = len := by
                        by_cases hbb : b.getD len = len
                        · exact hbb
                        · exact absurd ⟨hc, hbb⟩ hcl
                      omega
                    · have := g7 hc
                      rw [Nat.sub_mul]; omega
                · rw [hu]
                  simp only [Instr.sliceAt, Sem.run_bind, run_underlying hd, Result.andThen_ok, Instr.slice, Option.map_none, hbd, run_sizeOf hn, Sem.run_pure]
                  split <;> simp [Addr.add_lit]
              | @sl0 _ _ _ _ o _ r g1 g2 g3 g6 g9 =>
                have ha0 : a.getD 0 = 0 := by omega
                have hb0 : b.getD ((0 : Nat) : Int) = 0 := by omega
                have hbd := run_bounds (P := P) (isSlice := true) (len := 0) (cap := 0) (k1 := k1) (k2 := k2) q1 q2 (by omega) w
                refine fin (u := .slice (some o) 0 0) ?_ ?_
                · rw [ha0, hb0]; simp; exact .sl0 g1 g2 g3 g6 g9
                · rw [hu]
                  simp only [Instr.sliceAt, Sem.run_bind, run_underlying hd, Result.andThen_ok, Instr.slice, Option.map_none, hbd, run_sizeOf hn, Sem.run_pure]
                  rw [ha0, hb0]; simp
          · -- s[a:b:b]
            rename_i m
            split at h1
            · rename_i hmm
              obtain ⟨hmb, hsome⟩ := hmm
              cases h1
              generalize hu : ρ x = u at hV
              cases hV with
              | @sl _ _ _ _ _ cap _ r g1 g2 g3 g4 g5 g6 g7 g8 g9 =>
                have hbd := run_boundsM (P := P) (isSlice := true) (len := len) (cap := cap) (k1 := k1) (k2 := k2) (k3 := k3) (m := m) q1 q2 (by omega) hmb hsome w
                have hab : (a.getD 0).toNat ≤ (b.getD len).toNat := by omega
                have hbl : (b.getD len).toNat ≤ len := by omega
                have hm1 : (a.getD 0).toNat * n ≤ (b.getD len).toNat * n := Nat.mul_le_mul_right _ hab
                have hm2 : (b.getD len).toNat * n ≤ len * n := Nat.mul_le_mul_right _ hbl
                have hm3 : len * n ≤ cap * n := Nat.mul_le_mul_right _ g4
                refine fin (u := .slice (some (if (b.getD len).toNat = (a.getD 0).toNat then ⟨r.b, off + r.sh - r.lo, none⟩ else ⟨r.b, off + r.sh - r.lo + (a.getD 0).toNat * n, none⟩)) ((b.getD len).toNat - (a.getD 0).toNat) ((b.getD len).toNat - (a.getD 0).toNat)) ?_ ?_
                · by_cases hz : (b.getD len).toNat = (a.getD 0).toNat
                  · rw [if_pos hz, show (b.getD len).toNat - (a.getD 0).toNat = 0 from by omega]
                    exact .sl0 g1 (by omega) (by omega) (fun hc => by cases hc) g9
                  · rw [if_neg hz]
                    have : off + r.sh - r.lo + (a.getD 0).toNat * n = off + (a.getD 0).toNat * n + r.sh - r.lo := by omega
                    rw [this]
                    refine .sl g1 (by omega) ?_ (Nat.le_refl _) ?_ (fun _ => rfl) (fun hc => by cases hc) (by omega) g9
                    · rw [Nat.sub_mul]; omega
                    · rw [Nat.sub_mul]; omega
                · rw [hu]
                  simp only [Instr.sliceAt, Sem.run_bind, run_underlying hd, Result.andThen_ok, Instr.slice, hbd, run_sizeOf hn, Sem.run_pure]
                  split <;> simp [Addr.add_lit]
              | @sl0 _ _ _ _ o _ r g1 g2 g3 g6 g9 =>
                have ha0 : a.getD 0 = 0 := by omega
                have hb0 : b.getD ((0 : Nat) : Int) = 0 := by omega
                have hbd := run_boundsM (P := P) (isSlice := true) (len := 0) (cap := 0) (k1 := k1) (k2 := k2) (k3 := k3) (m := m) q1 q2 (by omega) hmb hsome w
                refine fin (u := .slice (some o) 0 0) ?_ ?_
                · rw [ha0, hb0]; simp; exact .sl0 g1 g2 g3 (fun hc => by cases hc) g9
                · rw [hu]
                  simp only [Instr.sliceAt, Sem.run_bind, run_underlying hd, Result.andThen_ok, Instr.slice, hbd, run_sizeOf hn, Sem.run_pure]
                  rw [ha0, hb0]; simp
            · cases h1
        · cases h1
      · cases h1
    · -- an array
      rename_i n el loc off ver lim hd
      split at h1
      · rename_i z cells v2 m2 tt2 hz hb2
        simp only at h1
        split at h1
        · rename_i hq
          obtain ⟨q0, q1, q2, q3, rfl, q4, q5, q6⟩ := hq
          cases h1
          obtain rfl : c = none := by simpa using q0
          generalize hu : ρ x = u at hV
          cases hV with
          | @ptr _ _ _ _ r g1 g2 g3 =>
            obtain ⟨bb, vs, hb, hg, hv, hR⟩ := hr.get g1
            rw [hb2] at hb; cases hb
            rcases hR with rfl | hR
            · simp at hv
            have ht := (hR.tip r hv).1
            obtain ⟨_, _, _, _, _, hsz, htop, _⟩ := hR.cell 0 r hv (hR.minv_le)
            have hs0 := hR.sh0 0 r hv
            have hbd := run_bounds (P := P) (isSlice := false) (len := n) (cap := n) (k1 := k1) (k2 := k2) q1 q2 q3 w
            have hab : (a.getD 0).toNat ≤ (b.getD n).toNat := by omega
            have hbl : (b.getD n).toNat ≤ n := by omega
            have hm1 : (a.getD 0).toNat * (z + 1) ≤ (b.getD n).toNat * (z + 1) := Nat.mul_le_mul_right _ hab
            have hm2 : (b.getD n).toNat * (z + 1) ≤ n * (z + 1) := Nat.mul_le_mul_right _ hbl
            refine fin (u := .slice (some (if n = (a.getD 0).toNat then ⟨r.b, off + r.sh - r.lo, none⟩ else ⟨r.b, off + r.sh - r.lo + (a.getD 0).toNat * (z + 1), none⟩)) ((b.getD n).toNat - (a.getD 0).toNat) (n - (a.getD 0).toNat)) ?_ ?_
            · by_cases hz : n = (a.getD 0).toNat
              · rw [if_pos hz, show (b.getD n).toNat - (a.getD 0).toNat = 0 from by omega, show n - (a.getD 0).toNat = 0 from by omega]
                exact .sl0 g1 (by omega) (by omega) (fun hc => by rw [← hz]; omega) (by omega)
              · rw [if_neg hz]
                have : off + r.sh - r.lo + (a.getD 0).toNat * (z + 1) = off + (a.getD 0).toNat * (z + 1) + r.sh - r.lo := by omega
                rw [this]
                refine .sl g1 (by omega) ?_ (by omega) ?_ (fun hc => by cases hc) (fun hc => ?_) (by simp only [maxLen]; omega) (by omega)
                · rw [Nat.sub_mul]; omega
                · rw [Nat.sub_mul]; omega
                · rw [Nat.sub_mul]; omega
            · rw [hu]
              simp only [Instr.sliceAt, Sem.run_bind, run_underlying hd, Result.andThen_ok, Instr.sureAddr, Option.map_none, hbd, run_sizeOf hz, Sem.run_pure]
              split <;> simp [Addr.add_lit]
        · cases h1
      · cases h1
    · cases h1
  · cases hm

theorem s_load {t : TypeId} {x : Operand} (hr : HR G B h w) (he : ∀ x v, e x = some v → V G v (ρ x)) (hm : mop P e h (.load t x) = some r) : ROk P G B w (.load t x) ρ r := by
  simp only [mop] at hm
  split at hm
  · rename_i loc off ver lim n hx ha hs
    split at hm
    · rename_i cs hrd
      cases hm
      have hV := he _ _ hx
      generalize hu : ρ x = u at hV
      cases hV with
      | ptr g1 g2 g3 =>
        obtain ⟨us, h1, h2, h3⟩ := rd_sound hr hrd g1 g2 g3
        refine ROk.quiet hr (.agg h1) ?_
        intros
        simp only [execOp, hu, Sem.run_bind, run_loadA (cs := us) (run_isAgg ha) (by rw [h2]; exact run_sizeOf hs) (fun j hj => by rw [List.getElem?_eq_getElem hj]; exact h3 _ _ (List.getElem?_eq_getElem hj)), Result.andThen_ok, Sem.run_pure]
    · cases hm
  · rename_i loc off ver lim hx ha
    split at hm
    · rename_i v hrd
      cases hm
      have hV := he _ _ hx
      generalize hu : ρ x = u at hV
      cases hV with
      | ptr g1 g2 g3 =>
        obtain ⟨us, h1, h2, h3⟩ := rd_sound hr hrd g1 g2 g3
        obtain ⟨y, rfl⟩ := List.length_eq_one_iff.1 h2
        cases h1 with
        | cons h1 _ =>
          refine ROk.quiet hr h1 ?_
          intros
          have h4 := h3 0 y rfl
          rw [Nat.add_zero] at h4
          simp only [execOp, hu, Sem.run_bind, run_load1 (run_isAgg ha) h4, Result.andThen_ok, Sem.run_pure]
    · cases hm
  · cases hm

theorem s_store {t : TypeId} {a x : Operand} (hr : HR G B h w) (he : ∀ x v, e x = some v → V G v (ρ x)) (hm : mop P e h (.store t a x) = some r) : ROk P G B w (.store t a x) ρ r := by
  simp only [mop] at hm
  split at hm
  · rename_i loc off ver lim v n ha hx hs
    split at hm
    · rename_i hn
      obtain ⟨h', hw, rfl⟩ := ru_some hm
      have hV := he _ _ ha
      have hX := (he _ _ hx).cells
      generalize hu : ρ a = u at hV
      cases hV with
      | ptr g1 g2 g3 =>
        obtain ⟨w', hrun, hS⟩ := wr_sound (P := P) hr hw g1 g2 g3 hX
        refine ⟨w', G, ?_, hS⟩
        intros
        have hsz : (ρ x).cells.size = n := by rw [← Array.length_toList, hX.length]; exact hn
        simp [execOp, hu, Instr.storeAt, Instr.sureAddr, storeVar, run_sizeOf hs, hsz, hrun]
    · cases hm
  · cases hm

/-- A new variable. -/
theorem newVar_sound {v : AV} {u : Value} {T : TypeId} (hr : HR G B h w) (hv : V G v u) : ∃ G', Step G G' B (mkRow h v.cells T) w (w.alloc (.cells u.cells T)) ∧ V G' (.ptr h.length 0 0 v.cells.length) (.pointer (some ⟨w.heap.size, 0, none⟩)) := by
  have hS := Step.newRow (c := u.cells) (T := T) (w' := w.alloc (.cells u.cells T)) hr hv.cells (fun p hp => by rw [Array.getElem?_toList])
    (heap_alloc_new w _) (by simp) (fun b hb => (Keep.alloc [] w _).block b hb (by simp)) rfl rfl rfl
  refine ⟨_, hS, ?_⟩
  rw [← hr.len]
  exact .ptr (r := ⟨w.heap.size, 0, v.cells.length, _, 0⟩) (by rw [at_new]; rfl) (Nat.le_refl _) (Nat.le_refl _)
theorem s_alloc {t : TypeId} (hr : HR G B h w) (hm : mop P e h (.alloc t) = some r) : ROk P G B w (.alloc t) ρ r := by
  simp only [mop] at hm
  split at hm
  · rename_i z hz
    cases hm
    obtain ⟨u, hrun, hv, _⟩ := run_zero G hz
    obtain ⟨G', hS, hV⟩ := newVar_sound (T := t) hr hv
    refine ⟨_, _, G', ?_, hS, hV⟩
    intros
    simp [execOp, Instr.alloc, newVar, newRow, hrun]
  · cases hm
theorem s_box {t : TypeId} {x : Operand} (hr : HR G B h w) (he : ∀ x v, e x = some v → V G v (ρ x)) (hm : mop P e h (.box t x) = some r) : ROk P G B w (.box t x) ρ r := by
  simp only [mop] at hm
  split at hm
  · rename_i v hx
    cases hm
    obtain ⟨G', hS, hV⟩ := newVar_sound (T := t) hr (he _ _ hx)
    refine ⟨_, _, G', ?_, hS, hV⟩
    intros
    simp [execOp, Instr.box, newVar, newRow]
  · cases hm
end
end Go.Mx
