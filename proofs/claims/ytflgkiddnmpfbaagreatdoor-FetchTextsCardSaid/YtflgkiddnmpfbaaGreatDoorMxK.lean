/- M's operations, sound: conversions, maps. -/
import Derived.Test.YtflgkiddnmpfbaaGreatDoorMxJ
set_option linter.unusedVariables false
set_option linter.unusedSimpArgs false
namespace Go.Mx
open Go Go.Gx
section
variable {P : Program} {G : Gh} {B : Nat} {h h' : Heap} {w : World} {op : Op} {ρ : Operand → Value} {e : Operand → Option AV} {r : Rs}

theorem VL_bytes (G : Gh) : ∀ l : List UInt8, VL G (l.map byteAV) (l.map fun c => Value.int .u8 (c.toNat : Int))
  | [] => .nil
  | c :: l => .cons (.int _ _) (VL_bytes G l)
theorem toBytes_sound : ∀ {cs : List AV} {l : List UInt8} {us : List Value}, toBytes cs = some l → VL G cs us → us = l.map fun c => Value.int .u8 (c.toNat : Int)
  | [], l, us, h, hx => by cases h; cases hx; rfl
  | x :: cs, l, us, h, hx => by
    unfold toBytes at h
    split at h
    · rename_i b bs h1 h2
      cases h
      cases hx with
      | cons hv ht =>
        rw [toBytes_sound h2 ht]
        unfold toByte at h1
        split at h1
        · split at h1
          · rename_i n hn
            cases h1
            rw [V_int hv]
            simp
            omega
          · cases h1
        · cases h1
    · cases h

theorem freeze_other {a : Addr} {m k : Nat} (h : k ≠ a.block) : (w.freeze a m).heap[k]? = w.heap[k]? := by
  unfold World.freeze
  split
  · rfl
  · simp [Array.getElem?_modify, Ne.symm h]
theorem freeze_same {b o m : Nat} {c : Array Value} {T : TypeId} {fr : Nat × Nat} (hm : 0 < m) (h : w.heap[b]? = some (.cells c T fr)) :
    (w.freeze ⟨b, o, none⟩ m).heap[b]? = some (.cells c T (if fr.1 = fr.2 then (o, o + m) else (min fr.1 o, max fr.2 (o + m)))) := by
  unfold World.freeze
  rw [if_neg (by omega)]
  simp [Array.getElem?_modify, h]
theorem freeze_size {a : Addr} {m : Nat} : (w.freeze a m).heap.size = w.heap.size := by
  unfold World.freeze
  split <;> simp
theorem freeze_os {a : Addr} {m : Nat} : (w.freeze a m).os = w.os ∧ (w.freeze a m).tape = w.tape ∧ (w.freeze a m).output = w.output := by
  unfold World.freeze
  split <;> exact ⟨rfl, rfl, rfl⟩

/-- Some cells of a row are marked: no write to them any more. -/
theorem row_freeze {cells : List AV} {ver minv frz frz' b : Nat} {tt tt' : Option TypeId} {vs : List Ver} {c : Array Value} {T : TypeId} {fr fr' : Nat × Nat} {w' : World}
    (hR : RowR G w cells ver minv frz tt vs) (hb : w.heap[b]? = some (.cells c T fr)) (hb' : w'.heap[b]? = some (.cells c T fr')) (ho : ∀ k, k ≠ b → w'.heap[k]? = w.heap[k]?) (hf : fr'.1 ≤ fr'.2) (hle : frz ≤ frz') (hl : frz' ≤ cells.length)
    (ht : ∀ t, tt' = some t → tt = some t) (hc : ∀ r, vs[ver]? = some r → r.b = b → (∀ j, frz' ≤ j + r.lo → j < c.size → ¬ (fr'.1 ≤ j ∧ j < fr'.2)) ∧ (tt'.isSome = true → fr'.1 = fr'.2 ∨ fr'.2 + r.lo ≤ frz')) : RowR G w' cells ver minv frz' tt' vs := by
  have hti : tt'.isSome = true → tt.isSome = true := fun e => by
    obtain ⟨t, e⟩ := Option.isSome_iff_exists.1 e
    rw [ht t e]; rfl
  refine ⟨hR.len, fun v r hv hm => ?_, fun r hv => ?_, hR.tops, hR.same, hR.minv_le, hR.sh0, hl⟩
  · obtain ⟨c0, T0, fr0, q1, qt, q2, q3, q4⟩ := hR.cell v r hv hm
    by_cases h : r.b = b
    · rw [h, hb] at q1
      cases q1
      exact ⟨c, T, fr', by rw [h]; exact hb', fun t e => qt t (ht t e), q2, q3, q4⟩
    · exact ⟨c0, T0, fr0, by rw [ho _ h]; exact q1, fun t e => qt t (ht t e), q2, q3, q4⟩
  · obtain ⟨ht, c0, T0, fr0, q5, q6, q7, q8⟩ := hR.tip r hv
    by_cases h : r.b = b
    · rw [h, hb] at q5
      cases q5
      obtain ⟨g1, g2⟩ := hc r hv h
      exact ⟨ht, c, T, fr', by rw [h]; exact hb', hf, g1, g2⟩
    · refine ⟨ht, c0, T0, fr0, by rw [ho _ h]; exact q5, q6, (fun j hj hjc => q7 j (by omega) hjc), fun e => ?_⟩
      rcases q8 (hti e) with q | q
      · exact .inl q
      · exact .inr (by omega)
theorem Step.freeze {loc v frz' m o : Nat} {cells : List AV} {ver minv frz : Nat} {tt tt' : Option TypeId} {r : Ver} (hr : HR G B h w) (hl : h[loc]? = some (.row cells ver minv frz false tt)) (hg : G.at loc v = some r) (hmv : minv ≤ v) (hm : 0 < m)
    (hle : frz ≤ frz') (hcl : frz' ≤ cells.length) (ht : ∀ t, tt' = some t → tt = some t)
    (hc : ∀ (c : Array Value) (T : TypeId) (fr : Nat × Nat) (rt : Ver), w.heap[r.b]? = some (.cells c T fr) → G.at loc ver = some rt → rt.b = r.b → c.size = r.size → fr.1 ≤ fr.2 → (∀ j, frz ≤ j + rt.lo → j < c.size → ¬ (fr.1 ≤ j ∧ j < fr.2)) → (tt.isSome = true → fr.1 = fr.2 ∨ fr.2 + rt.lo ≤ frz) →
      (∀ j, frz' ≤ j + rt.lo → j < c.size → ¬ ((if fr.1 = fr.2 then (o, o + m) else (min fr.1 o, max fr.2 (o + m))).1 ≤ j ∧ j < (if fr.1 = fr.2 then (o, o + m) else (min fr.1 o, max fr.2 (o + m))).2)) ∧
      (tt'.isSome = true → (if fr.1 = fr.2 then (o, o + m) else (min fr.1 o, max fr.2 (o + m))).1 = (if fr.1 = fr.2 then (o, o + m) else (min fr.1 o, max fr.2 (o + m))).2 ∨ (if fr.1 = fr.2 then (o, o + m) else (min fr.1 o, max fr.2 (o + m))).2 + rt.lo ≤ frz')) :
    Step G G B (h.set loc (.row cells ver minv frz' false tt')) w (w.freeze ⟨r.b, o, none⟩ m) := by
  obtain ⟨b0, vs, hb, hgv, hv, hR⟩ := hr.get hg
  rw [hl] at hb; cases hb
  rcases hR with rfl | hR
  · simp at hv
  obtain ⟨c, T, fr, q1, qt, q2, q3, q4⟩ := hR.cell v r hv hmv
  have hb' := freeze_same (o := o) hm q1
  have hf : (if fr.1 = fr.2 then (o, o + m) else (min fr.1 o, max fr.2 (o + m))).1 ≤ (if fr.1 = fr.2 then (o, o + m) else (min fr.1 o, max fr.2 (o + m))).2 := by
    split
    · show o ≤ o + m; omega
    · show min fr.1 o ≤ max fr.2 (o + m); omega
  have hS := Step.upd (vs' := vs) (blk' := .row cells ver minv frz' false tt') (w' := w.freeze ⟨r.b, o, none⟩ m) hr hl hgv rfl rfl ⟨v, r, hv, rfl⟩ (by rw [freeze_size]; exact Nat.le_refl _) (fun k _ hk => freeze_other hk) freeze_os.1 freeze_os.2.1 freeze_os.2.2 (fun _ _ h => h) (fun v r' h => .inr ⟨v, r', h, rfl⟩)
    (fun _ => Or.inr (by
      rw [set_same hgv]
      refine row_freeze hR q1 hb' (fun k hk => freeze_other hk) hf hle hcl ht fun rt hrt hrb => ?_
      obtain ⟨_, c1, T1, fr1, q5, q6, q7, q8⟩ := hR.tip rt hrt
      rw [hrb, q1] at q5; cases q5
      exact hc c T fr rt q1 (Gh.at_of hgv hrt) hrb q2 q6 q7 q8))
  rw [set_same hgv] at hS
  exact hS

theorem lies_self {u count n : Nat} (h0 : 0 < P.cellsOf u) (hn : n ≤ count) : liesAt P P.depth u count 0 u n = true := by
  have hd : P.depth = 2 * (P.types.size + Made.depth) + 1 + 1 := rfl
  have hs : ∀ d, sameLayout P (d + 1) u u = true := fun d => by unfold sameLayout; simp
  have hrow : rowAt P (fun t => sameLayout P P.depth t u) P.depth u count 0 n = true := by
    rw [hd]
    unfold rowAt
    have h1 : ¬ P.cellsOf u = 0 := by omega
    simp only [h1, if_false, Nat.zero_div, Nat.zero_mod, hs]
    simp [hn]
  rw [hd]
  unfold liesAt
  rw [hrow]
  rfl
/-- The block behind a pointer. -/
theorem ptr_shape {loc off ver lim minv vr frz : Nat} {cells : List AV} {ro : Bool} {tt : Option TypeId} {u : Value} (hr : HR G B h w) (hl : h[loc]? = some (.row cells vr minv frz ro tt)) (hm : minv ≤ ver) (hV : V G (.ptr loc off ver lim) u) :
    ∃ r c T fr, G.at loc ver = some r ∧ r.lo ≤ off ∧ lim ≤ r.top ∧ u = .pointer (some ⟨r.b, off + r.sh - r.lo, none⟩) ∧ w.heap[r.b]? = some (.cells c T fr) ∧ (∀ t, tt = some t → T = t) ∧ c.size = r.size ∧ r.top ≤ r.lo + r.size ∧ r.sh = 0 := by
  cases hV with
  | @ptr _ _ _ _ r g1 g2 g3 =>
    obtain ⟨b0, vs, hb, hgv, hv, hR⟩ := hr.get g1
    rw [hl] at hb; cases hb
    rcases hR with rfl | hR
    · simp at hv
    obtain ⟨c, T, fr, q1, qt, q2, q3, _⟩ := hR.cell ver r hv hm
    exact ⟨r, c, T, fr, g1, g2, g3, rfl, q1, qt, q2, q3, hR.sh0 ver r hv⟩

theorem s_convert {s d : TypeId} {x : Operand} (hr : HR G B h w) (he : ∀ x v, e x = some v → V G v (ρ x)) (hm : mop P e h (.convert s d x) = some r) : ROk P G B w (.convert s d x) ρ r := by
  simp only [mop] at hm
  split at hm
  · rename_i a hx
    obtain ⟨v, h', h1, rfl⟩ := rvh_some hm
    have hV := he _ _ hx
    unfold mconv at h1
    split at h1
    · rename_i ds k k' n hs hd
      cases h1
      have hI := V_int hV
      refine ROk.quiet hr (.int _ _) ?_
      intros
      simp only [execOp, hI, Sem.run_bind]
      rw [show (convert s d (.int k' n)).run P w = .ok (.int k (k.wrap n)) w from by simp [convert, run_underlying hs, run_underlying hd, Conv.intToInt]]
      rfl
    · rename_i ds l hs hd
      cases h1
      have hS := V_str hV
      refine ROk.quiet hr (.str _) ?_
      intros
      simp only [execOp, hS, Sem.run_bind, vstr]
      rw [show (convert s d (.string ⟨l.toArray⟩)).run P w = .ok (.string ⟨l.toArray⟩) w from by cases ds <;> simp [convert, run_underlying hs, run_underlying hd]]
      rfl
    · rename_i el l hs hd
      split at h1
      · rename_i hel
        split at h1
        · rename_i hl
          cases h1
          have hS := V_str hV
          have hrun : (convert s d (vstr l)).run P w = .ok (.slice (some ⟨w.heap.size, 0, none⟩) l.length (grownCap w l.length 0 el)) (w.drew.alloc (.cells (bytesRow ⟨l.toArray⟩ (grownCap w l.length 0 el)) el ((bytesRow ⟨l.toArray⟩ (grownCap w l.length 0 el)).size, (bytesRow ⟨l.toArray⟩ (grownCap w l.length 0 el)).size + 1))) := by
            have := run_bytes_of_string (P := P) w s d el ⟨l.toArray⟩ hs hd hel
            rw [size_mk] at this
            exact this
          have hge := grownCap_ge w l.length 0 el
          have hgm := grownCap_le_maxLen w l.length 0 el (by simp only [maxLen]; omega)
          have hsz : (bytesRow ⟨l.toArray⟩ (grownCap w l.length 0 el)).size = grownCap w l.length 0 el := by
            simp only [bytesRow, Array.size_append, Array.size_map, Array.size_replicate, size_mk, List.size_toArray]; omega
          have hS2 := Step.newRowT (tt := none) (c := bytesRow ⟨l.toArray⟩ (grownCap w l.length 0 el)) (T := el) (fr := ((bytesRow ⟨l.toArray⟩ (grownCap w l.length 0 el)).size, (bytesRow ⟨l.toArray⟩ (grownCap w l.length 0 el)).size + 1)) (w' := w.drew.alloc (.cells (bytesRow ⟨l.toArray⟩ (grownCap w l.length 0 el)) el ((bytesRow ⟨l.toArray⟩ (grownCap w l.length 0 el)).size, (bytesRow ⟨l.toArray⟩ (grownCap w l.length 0 el)).size + 1)))
            (fun t e => by cases e) (fun e => by cases e) hr (VL_bytes G l) (fun p hp => by
              simp only [List.length_map] at hp
              rw [bytesRow, Array.getElem?_append_left (by simpa using hp)]; simp) ⟨by simp, fun j hj q => by omega⟩
            (heap_alloc_new w.drew _) (by simp) (fun b hb => (Keep.drewAlloc w _).block b hb (by simp)) rfl rfl rfl
          refine ⟨_, .slice (some ⟨w.heap.size, 0, none⟩) l.length (grownCap w l.length 0 el), _, ?_, hS2, ?_⟩
          · intros
            simp only [execOp, hS, Sem.run_bind, hrun, Result.andThen_ok, Sem.run_pure]
          · rw [← hr.len]
            exact .sl (r := ⟨w.heap.size, 0, (l.map byteAV).length, _, 0⟩) (by rw [at_new]; rfl) (Nat.le_refl _) (by simp) hge (by simp only [hsz]; omega) (fun e => by cases e) (fun _ => by simp; omega) hgm (by omega)
        · cases h1
      · cases h1
    · rename_i el hs hd
      split at h1
      · rename_i hel
        cases h1
        generalize hu : ρ x = u at hV
        cases hV
        refine ROk.quiet hr (.str []) ?_
        intros
        simp only [execOp, hu, Sem.run_bind, run_convert_bytes_string w s d el none 0 0 hs hel hd]
        simp [Conv.bytesToString, vstr]; rfl
      · cases h1
    · rename_i el loc off len ver clip hs hd
      split at h1
      · rename_i hel
        split at h1
        · rename_i cs hrd
          split at h1
          · rename_i l hl
            cases h1
            generalize hu : ρ x = u at hV
            cases hV with
            | @sl _ _ _ _ _ cap _ r g1 g2 g3 g4 g5 g6 g7 g8 g9 =>
              obtain ⟨us, o1, o2, o3⟩ := rd_sound hr hrd g1 g2 (by omega)
              have hub := toBytes_sound hl o1
              have hln : l.length = len := by rw [← o2, hub]; simp
              refine ROk.quiet hr (.str l) ?_
              intros
              have := run_convert_bytes_back (P := P) w s d el ⟨r.b, off + r.sh - r.lo, none⟩ cap l hs hel hd (fun j hj => by
                rw [Addr.add_lit]
                exact o3 j _ (by rw [hub]; simp [hj]))
              rw [hln] at this
              simp only [execOp, hu, Sem.run_bind, this, Result.andThen_ok, Sem.run_pure, vstr]
            | @sl0 _ _ _ _ o _ r g1 g2 g3 g6 g9 =>
              obtain ⟨us, o1, o2, o3⟩ := rd_sound hr hrd g1 g2 (by omega)
              have hub := toBytes_sound hl o1
              obtain rfl : l = [] := by
                have : us = [] := List.eq_nil_of_length_eq_zero o2
                rw [this] at hub
                cases l with
                | nil => rfl
                | cons => simp at hub
              refine ROk.quiet hr (.str []) ?_
              intros
              have := run_convert_bytes_back (P := P) w s d el o 0 [] hs hel hd (fun j hj => by simp at hj)
              simp only [List.length_nil] at this
              simp only [execOp, hu, Sem.run_bind, this, Result.andThen_ok, Sem.run_pure, vstr]
          · cases h1
        · cases h1
      · cases h1
    · -- the same slice
      rename_i es el loc off len sz ver clip hs hd
      split at h1
      · rename_i hsd
        subst hsd
        split at h1
        · rename_i cells vr minv tt hel hl
          split at h1
          · rename_i hmv
            obtain ⟨hmv, hlen0⟩ := hmv
            cases h1
            have key : ∀ {a : Addr} {l c v : Nat} {r : Ver}, G.at loc v = some r → minv ≤ v → a.block = r.b → ρ x = .slice (some a) l c → ∃ w', (∀ dst ty pos after g, (execOp ρ ⟨dst, .convert s s x, ty, pos, after, g⟩).run P w = .ok (.value (ρ x)) w') ∧ Step G G B (h.set loc (.row cells vr minv 0 false none)) w w' := by
              intro a l c v r hg hmv hab hu
              obtain ⟨b0, vs, hb, hgv, hv, hR⟩ := hr.get hg
              rw [hl] at hb; cases hb
              rcases hR with rfl | hR
              · simp at hv
              obtain ⟨cc, T, fr, q1, qt, q2, q3, q4⟩ := hR.cell v r hv hmv
              have hS := Step.freeze (v := v) (frz' := 0) (m := 1) (o := cc.size) hr hl hg hmv (by omega) (Nat.le_refl _) (Nat.zero_le _) (tt' := none) (fun _ e => by cases e) (fun c2 T2 fr2 rt e1 e2 e3 e4 e5 e6 e7 => by
                rw [q1] at e1; cases e1
                refine ⟨fun j _ hj => ?_, fun e => by cases e⟩
                split
                · show ¬ (cc.size ≤ j ∧ j < cc.size + 1); omega
                · rename_i hne
                  show ¬ (min fr.1 cc.size ≤ j ∧ j < max fr.2 (cc.size + 1))
                  have : cc.size ≤ fr.1 := by
                    rcases Nat.lt_or_ge fr.1 cc.size with hlt | hge
                    · exact absurd ⟨Nat.le_refl _, by omega⟩ (e6 fr.1 (by omega) hlt)
                    · exact hge
                  omega)
              refine ⟨_, ?_, hS⟩
              intros
              have hsh : w.shape? r.b = some (T, cc.size) := by simp [World.shape?, q1]
              have hee : es = el := by rw [hs] at hd; cases hd; rfl
              subst hee
              simp [execOp, hu, convert, run_underlying hs, run_underlying hel, markStringish, hab, hsh]
            have hx2 := hV
            generalize hu : ρ x = u at hV
            cases hV with
            | @sl _ _ _ _ _ cap _ r g1 g2 g3 g4 g5 g6 g7 g8 g9 =>
              obtain ⟨w', hrun, hS⟩ := key g1 hmv rfl hu
              exact ⟨w', _, G, hrun, hS, hx2⟩
            | @sl0 _ _ _ _ o _ r g1 g2 g3 g6 g9 => exact absurd hlen0 (by omega)
          · cases h1
        · cases h1
      · cases h1
    · -- a pointer, unsafe
      rename_i t loc off ver lim hs hd
      split at h1
      · rename_i cells vr minv frz ro tt hl
        split at h1
        · rename_i hq
          obtain ⟨hw, hlt, hmv⟩ := hq
          cases h1
          obtain ⟨n, hn⟩ := wide_some hw
          obtain ⟨r, c, T, fr, g1, g2, g3, hu, q1, qt, q2, q3, hs0⟩ := ptr_shape hr hl hmv hV
          rw [hs0, Nat.add_zero] at hu
          refine ROk.quiet hr hV ?_
          intros
          have hsh : w.shape? r.b = some (T, c.size) := by simp [World.shape?, q1]
          have hlt2 : ¬ (c.size ≤ off - r.lo) := by omega
          simp [execOp, hu, convert, run_underlying hs, run_underlying hd, Conv.unsafePointer, Conv.seenAt, viewAt, cellsIn, hsh, run_sizeOf hn, hlt2]
        · cases h1
      · cases h1
    · rename_i u loc off ver lim hs hd
      split at h1
      · rename_i cells vr minv frz ro T hl
        split at h1
        · rename_i hq
          obtain ⟨rfl, rfl, hmv, hc0, hcl⟩ := hq
          cases h1
          obtain ⟨r, c, T', fr, g1, g2, g3, hu, q1, qt, q2, q3, hs0⟩ := ptr_shape hr hl hmv hV
          rw [hs0, Nat.add_zero] at hu
          obtain rfl := qt _ rfl
          refine ROk.quiet hr hV ?_
          intros
          have hsh : w.shape? r.b = some (T', c.size) := by simp [World.shape?, q1]
          have hlies : liesAt P P.depth T' (c.size / P.cellsOf T') 0 T' 1 = true := lies_self hc0 ((Nat.le_div_iff_mul_le hc0).2 (by omega))
          have h00 : 0 - r.lo = 0 := by omega
          rw [h00] at hu
          have hva : (variablesAt ⟨r.b, 0, none⟩ T' 1).run P w = .ok true w := by simp [variablesAt, hsh, hlies]
          by_cases hz : P.cellsOf T' = 0
          · omega
          · have hsz : ∃ n, szOf P T' = some (n + 1) := by
              unfold szOf
              unfold Program.cellsOf at hz
              cases hi : P.info? T' with
              | none => rw [hi] at hz; exact absurd rfl hz
              | some i => rw [hi] at hz; exact ⟨i.size - 1, by have : i.size ≠ 0 := hz; simp; omega⟩
            obtain ⟨n, hn⟩ := hsz
            simp [execOp, hu, convert, run_underlying hs, run_underlying hd, Conv.unsafePointer, Conv.seenAt, viewAt, hsh, run_sizeOf hn, hva]
        · cases h1
      · cases h1
    · cases h1
  · cases hm
end
end Go.Mx
