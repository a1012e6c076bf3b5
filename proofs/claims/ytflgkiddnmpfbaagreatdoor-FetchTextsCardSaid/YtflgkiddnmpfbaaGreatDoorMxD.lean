/- M's append, sound. -/
import Derived.Test.YtflgkiddnmpfbaaGreatDoorMxC
namespace Go.Mx
open Go Go.Gx
section
variable {P : Program} {G G' : Gh} {B : Nat} {h h' : Heap} {w w' : World}

theorem fits {a bytes : Nat} (h : a < 549755813888) (hb : bytes ≤ 256) : a * bytes ≤ 140737488355328 := by
  have : a * bytes ≤ 549755813888 * 256 := Nat.mul_le_mul (by omega) hb
  omega

/-- A new row for an append. -/
theorem grown_row {e : TypeId} {z : Value} {sz : Nat} {olds news : List Value} {cells : List AV} {n k cap : Nat} (hr : HR G B h w) (hx : VL G cells (olds ++ news)) (hzs : z.cells.size = sz) (hz : 0 < sz) (hl : cells.length = (n + k) * sz) (hcap : n + k ≤ cap) (hm : cap ≤ maxLen) :
    ∃ G', Step G G' B (mkRow h cells e) w (w.drew.alloc (.cells ((olds ++ news).toArray ++ Builtin.zeroCells z.cells (cap - (n + k))) e)) ∧
      V G' (.sl h.length 0 (n + k) sz 0 false) (.slice (some ⟨w.heap.size, 0, none⟩) (n + k) cap) := by
  have hul := hx.length
  have hcs : ((olds ++ news).toArray ++ Builtin.zeroCells z.cells (cap - (n + k))).size = cap * sz := by
    rw [Array.size_append, List.size_toArray, hul, hl, size_zeroCells, hzs, ← Nat.add_mul]; congr 1; omega
  have hS := Step.newRow (c := (olds ++ news).toArray ++ Builtin.zeroCells z.cells (cap - (n + k))) (T := e) (w' := w.drew.alloc (.cells ((olds ++ news).toArray ++ Builtin.zeroCells z.cells (cap - (n + k))) e)) hr hx
    (fun p hp => by rw [Array.getElem?_append_left (by rw [List.size_toArray, hul]; exact hp), List.getElem?_toArray])
    (heap_alloc_new w.drew _) (by simp) (fun b hb => (Keep.drewAlloc w _).block b hb (by simp)) rfl rfl rfl
  refine ⟨_, hS, ?_⟩
  rw [← hr.len]
  refine .sl (r := ⟨w.heap.size, 0, cells.length, _, 0⟩) (by rw [at_new]; rfl) (Nat.le_refl _) (by simp [hl]) hcap (by simp only [hcs]; omega) (fun e => by cases e) (fun _ => ?_) hm hz
  simp only [hl, Nat.zero_add]
  exact Nat.mul_le_mul_right _ hcap

set_option maxHeartbeats 2000000 in
theorem app_sound {s s' : AV} {sv v2 : Value} {k : Nat} {xs : List AV} {us : List Value} {t t2 ty e : TypeId} {i : TypeInfo} {z : Value} (hr : HR G B h w) (hs : V G s sv) (he : app h e s i.size xs k = some (s', h'))
    (ht : P.underlying t = some (.slice e)) (hi : P.info? e = some i) (hz : i.zero = some z) (hzs : z.cells.size = i.size) (hby : i.bytes ≤ 256) (S : Src P i.size t2 v2 k us w) (hx : VL G xs us) :
    ∃ w' v' G', (Builtin.append_ #[t, t2] ty #[sv, v2]).run P w = .ok v' w' ∧ Step G G' B h' w w' ∧ V G' s' v' := by
  unfold app at he
  split at he
  · rename_i hc
    obtain ⟨hone, hlen, hsz⟩ := hc
    cases hs with
    | nils =>
      simp only at he
      split at he
      · rename_i hk
        subst hk
        cases he
        obtain rfl : us = [] := by have := hx.length; rw [hlen, Nat.zero_mul] at this; exact List.eq_nil_of_length_eq_zero this
        exact ⟨w, _, G, run_append_nothing w t t2 ty e i ht hi none 0 0 (Nat.le_refl _) v2 S, .refl hr, .nils⟩
      · split at he
        · rename_i hk hk2
          cases he
          have hrun := run_append_grow_src (P := P) w t t2 ty e i z ht hi hz none 0 0 [] (by simp [Builtin.firstCells]) v2 k us S (by omega) (by omega) (growslice_fits (by omega) (by simpa using fits hk2 hby))
          obtain ⟨G', hS, hV⟩ := grown_row (olds := []) (news := us) (n := 0) (k := k) (cap := grownCap w (0 + k) 0 e) (e := e) hr (by simpa using hx) hzs hsz (by simpa using hlen) (grownCap_ge w _ 0 e) (grownCap_le_maxLen w _ 0 e (by simp only [maxLen]; omega))
          refine ⟨_, _, G', hrun, hS, ?_⟩
          simpa using hV
        · cases he
    | @sl loc off len sz ver cap clip r ha h1 h2 h3 h4 h5 h6 h7 h8 =>
      simp only at he
      split at he
      · rename_i hq
        obtain ⟨rfl, hmax⟩ := hq
        split at he
        · rename_i hk
          subst hk
          cases he
          obtain rfl : us = [] := by have := hx.length; rw [hlen, Nat.zero_mul] at this; exact List.eq_nil_of_length_eq_zero this
          exact ⟨w, _, G, run_append_nothing w t t2 ty e i ht hi _ len cap h3 v2 S, .refl hr, .sl ha h1 h2 h3 h4 h5 h6 h7 h8⟩
        · rename_i hk
          have hul := hx.length
          -- a new row with what lies in the slice
          have olds : ∀ {ys : List AV}, rd h loc off ver (off + len * i.size) (len * i.size) = some ys → ∃ os, VL G ys os ∧ os.length = len * i.size ∧ (Builtin.firstCells i.size len (.slice (some ⟨r.b, off + r.sh - r.lo, none⟩) len cap)).run P w.drew = .ok os.toArray w.drew := by
            intro ys hy
            obtain ⟨os, o1, o2, o3⟩ := rd_sound hr hy ha h1 h2
            exact ⟨os, o1, o2, run_firstCells_some (P := P) w.drew i.size len _ len cap os o2 (fun j u hu => by rw [Addr.add_lit]; exact o3 j u hu)⟩
          cases hclip : clip with
          | true =>
            rw [if_pos hclip] at he
            cases hrd : rd h loc off ver (off + len * i.size) (len * i.size) with
            | none => rw [hrd] at he; cases he
            | some ys =>
              rw [hrd] at he
              cases he
              obtain ⟨os, o1, o2, o3⟩ := olds hrd
              have hcl := h5 hclip
              have hrun := run_append_grow_src (P := P) w t t2 ty e i z ht hi hz (some ⟨r.b, off + r.sh - r.lo, none⟩) len cap os o3 v2 k us S (by omega) (by omega) (growslice_fits (by omega) (fits hmax hby))
              obtain ⟨G', hS, hV⟩ := grown_row (olds := os) (news := us) (n := len) (k := k) (cap := grownCap w (len + k) cap e) (e := e) hr (o1.append hx) hzs hsz (by rw [List.length_append, ← o1.length, o2, hlen, Nat.add_mul]) (grownCap_ge w _ cap e) (grownCap_le_maxLen w _ cap e (by simp only [maxLen]; omega))
              exact ⟨_, _, G', hrun, hS, hV⟩
          | false =>
            rw [if_neg (by rw [hclip]; simp)] at he
            obtain ⟨b, vs, hb, hg, hv, hR⟩ := hr.get ha
            rw [hb] at he
            cases b with
            | row cells v minv frz ro tt =>
              cases ro with
              | true => simp at he
              | false =>
                simp only at he
                split at he
                · rename_i hver
                  subst hver
                  rcases hR with rfl | hR
                  · simp at hv
                  have htip := (hR.tip r hv).1
                  have hlt : ∀ (v : Nat) (r : Ver), vs[v]? = some r → r.b < w.heap.size := fun v r hv => hr.lt _ _ _ (Gh.at_of hg hv)
                  have hgl : loc < G.length := (List.getElem?_eq_some_iff.1 hg).1
                  have hcov := h6 hclip
                  obtain ⟨c, T, fr, q1, qt, q2, q3, q4⟩ := hR.cell ver r hv hR.minv_le
                  obtain ⟨_, c1, T1, fr1, q5, q6, q7, q8⟩ := hR.tip r hv
                  rw [q1] at q5; cases q5
                  split at he
                  · rename_i htop
                    cases he
                    by_cases hroom : len + k ≤ cap
                    · -- there is room
                      have hmul : (len + k) * i.size ≤ cap * i.size := Nat.mul_le_mul_right _ hroom
                      rw [Nat.add_mul] at hmul
                      have hs0 := hR.sh0 ver r hv
                      obtain ⟨w', hrun, hb', hsz', ho, htp, hu, hk'⟩ := run_storeCells_at (P := P) r.b (off - r.lo + len * i.size) T fr us 0 c.toList w (by simpa using q1) (fun j hj hjc => q7 j (by have := hR.frz_le; omega) (by simpa using hjc)) (by simp; omega) (hx.one hone)
                      rw [show off - r.lo = off + r.sh - r.lo from by omega] at hrun
                      have hS := Step.upd (vs' := vs ++ [{ r with top := cells.length + xs.length }]) (blk' := .row (cells ++ xs) (ver + 1) minv frz false (if tt = some e then tt else none)) hr hb hg rfl rfl ⟨ver, r, hv, rfl⟩ (Nat.le_of_eq hsz'.symm) (fun k _ => hk' k) ho htp hu
                        (fun v r' h => by rw [List.getElem?_append_left (List.getElem?_eq_some_iff.1 h).1]; exact h)
                        (fun v r' h => by
                          rw [List.getElem?_append] at h
                          split at h
                          · exact .inr ⟨v, r', h, rfl⟩
                          · refine .inr ⟨ver, r, hv, ?_⟩
                            cases hd : v - vs.length with
                            | zero => rw [hd] at h; simp at h; subst h; rfl
                            | succ n => rw [hd] at h; simp at h)
                        (fun hG => .inr (row_in tt_keep hR hv hx (by omega) hG q1 hb' (fun k _ => hk' k) hlt (by rw [show off - r.lo + len * i.size = cells.length - r.lo from by omega]; simp)))
                      refine ⟨w', .slice (some ⟨r.b, off + r.sh - r.lo, none⟩) (len + k) cap, _, ?_, hS, ?_⟩
                      · have hf := S.cells
                        have hln := S.len
                        rcases S.kind with ⟨e', hk2⟩ | hk2 <;>
                        (simp [Builtin.append_, run_underlying ht, run_underlying hk2, sizeOf, typeInfo, hi, hln, hroom, hf, Addr.add_lit]
                         rw [hrun]; rfl)
                      · have hnew : Gh.at (G.set loc (vs ++ [{ r with top := cells.length + xs.length }])) loc (ver + 1) = some { r with top := cells.length + xs.length } := by
                          rw [at_upd hgl, ← hR.len, List.getElem?_append_right (Nat.le_refl _)]; simp
                        exact .sl (r := { r with top := cells.length + xs.length }) hnew h1 (by show off + (len + k) * i.size ≤ cells.length + xs.length; rw [Nat.add_mul]; omega) hroom h4 (fun e => by cases e) (fun _ => by show cells.length + xs.length ≤ _; omega) h7 h8
                    · -- there is none
                      have hrd : rd h loc off ver (off + len * i.size) (len * i.size) = some ((cells.drop off).take (len * i.size)) := by
                        unfold rd; rw [hb]; simp only; rw [if_pos ⟨hR.minv_le, Nat.le_refl _⟩]
                      obtain ⟨os, o1, o2, o3⟩ := olds hrd
                      have hdrop : (cells.drop off).take (len * i.size) = cells.drop off := List.take_of_length_le (by simp; omega)
                      rw [hdrop] at o1
                      have hrun := run_append_grow_src (P := P) w t t2 ty e i z ht hi hz (some ⟨r.b, off + r.sh - r.lo, none⟩) len cap os o3 v2 k us S (by omega) (by omega) (growslice_fits (by omega) (fits hmax hby))
                      have hge := grownCap_ge w (len + k) cap e
                      have hgm := grownCap_le_maxLen w (len + k) cap e (by simp only [maxLen]; omega)
                      generalize hgc : grownCap w (len + k) cap e = gc at *
                      have hcs : ((os ++ us).toArray ++ Builtin.zeroCells z.cells (gc - (len + k))).size = gc * i.size := by
                        rw [Array.size_append, List.size_toArray, List.length_append, o2, hul, hlen, size_zeroCells, hzs, ← Nat.add_mul, ← Nat.add_mul]; congr 1; omega
                      have hS := Step.upd (vs' := vs ++ [⟨w.heap.size, off, cells.length + xs.length, _, 0⟩]) (w' := w.drew.alloc (.cells ((os ++ us).toArray ++ Builtin.zeroCells z.cells (gc - (len + k))) e)) (blk' := .row (cells ++ xs) (ver + 1) minv frz false (if tt = some e then tt else none)) hr hb hg rfl rfl ⟨ver, r, hv, rfl⟩ (by simp)
                        (fun k hk _ => (Keep.drewAlloc w _).block k hk (by simp)) rfl rfl rfl
                        (fun v r' h => by rw [List.getElem?_append_left (List.getElem?_eq_some_iff.1 h).1]; exact h)
                        (fun v r' h => by
                          rw [List.getElem?_append] at h
                          split at h
                          · exact .inr ⟨v, r', h, rfl⟩
                          · left
                            cases hd : v - vs.length with
                            | zero => rw [hd] at h; simp at h; subst h; exact ⟨Nat.le_refl _, by simp⟩
                            | succ n => rw [hd] at h; simp at h)
                        (fun hG => .inr (row_out tt_keep hR tt_new hx (by omega) hG (Nat.le_refl _) (heap_alloc_new w.drew _) ⟨Nat.le_refl _, fun j _ q => by omega⟩ rfl (fun k hk => (Keep.drewAlloc w _).block k hk (by simp)) hlt o1
                          (fun j u hj => by rw [Array.getElem?_append_left (by rw [List.size_toArray]; exact (List.getElem?_eq_some_iff.1 hj).1), List.getElem?_toArray]; exact hj)))
                      refine ⟨_, _, _, hrun, hS, ?_⟩
                      have hnew : Gh.at (G.set loc (vs ++ [⟨w.heap.size, off, cells.length + xs.length, ((os ++ us).toArray ++ Builtin.zeroCells z.cells (gc - (len + k))).size, 0⟩])) loc (ver + 1) = some ⟨w.heap.size, off, cells.length + xs.length, ((os ++ us).toArray ++ Builtin.zeroCells z.cells (gc - (len + k))).size, 0⟩ := by
                        rw [at_upd hgl, ← hR.len, List.getElem?_append_right (Nat.le_refl _)]; simp
                      have hmul : (len + k) * i.size ≤ gc * i.size := Nat.mul_le_mul_right _ hge
                      rw [Nat.add_mul] at hmul
                      have := V.sl (G := G.set loc (vs ++ [⟨w.heap.size, off, cells.length + xs.length, ((os ++ us).toArray ++ Builtin.zeroCells z.cells (gc - (len + k))).size, 0⟩])) (loc := loc) (off := off) (len := len + k) (sz := i.size) (clip := false) (cap := gc) hnew (Nat.le_refl _) (by show off + (len + k) * i.size ≤ cells.length + xs.length; rw [Nat.add_mul]; omega) hge (by show off - off + gc * i.size ≤ ((os ++ us).toArray ++ Builtin.zeroCells z.cells (gc - (len + k))).size; rw [hcs]; omega) (fun e => by cases e) (fun _ => by show cells.length + xs.length ≤ _; omega) hgm h8
                      simpa using this
                  · split at he
                    · rename_i hnt hin
                      obtain ⟨hin, hfz⟩ := hin
                      cases he
                      have hroom : len + k ≤ cap := mul_cancel hsz (by omega)
                      have hs0 := hR.sh0 ver r hv
                      obtain ⟨w', hrun, hb', hsz', ho, htp, hu, hk'⟩ := run_storeCells_at (P := P) r.b (off - r.lo + len * i.size) T fr us 0 c.toList w (by simpa using q1) (fun j hj hjc => q7 j (by omega) (by simpa using hjc)) (by simp; omega) (hx.one hone)
                      rw [show off - r.lo = off + r.sh - r.lo from by omega] at hrun
                      have hS := Step.upd (vs' := vs) (blk' := .row (cells.take (off + len * i.size) ++ xs ++ cells.drop (off + len * i.size + xs.length)) ver ver frz false tt) hr hb hg rfl rfl ⟨ver, r, hv, rfl⟩ (Nat.le_of_eq hsz'.symm) (fun k _ => hk' k) ho htp hu (fun _ _ h => h) (fun v r' h => .inr ⟨v, r', h, rfl⟩)
                        (fun _ => .inr (by
                          rw [set_same hg]
                          refine row_write (off := off + len * i.size) hR hv (by omega) hx (by omega) q1 hb' ?_
                          rw [show off + len * i.size - r.lo = off - r.lo + len * i.size from by omega]; simp))
                      rw [set_same hg] at hS
                      refine ⟨w', .slice (some ⟨r.b, off + r.sh - r.lo, none⟩) (len + k) cap, G, ?_, hS, .sl ha h1 (by rw [Nat.add_mul]; omega) hroom h4 (fun e => by cases e) (fun _ => hcov) h7 h8⟩
                      have hf := S.cells
                      have hln := S.len
                      rcases S.kind with ⟨e', hk2⟩ | hk2 <;>
                      (simp [Builtin.append_, run_underlying ht, run_underlying hk2, sizeOf, typeInfo, hi, hln, hroom, hf, Addr.add_lit]
                       rw [hrun]; rfl)
                    · cases he
                · cases he
            | lay cells => simp at he
            | map es => simp at he
            | iter s pos => simp at he
            | dead => simp at he
            | loop env ps asg body st pd => simp at he
            | dfr => simp at he
            | miter m => simp at he
            | gone => simp at he
      · cases he
    | @sl0 loc off sz ver a0 clip r ha h1 h2 h6 h8 =>
      simp only at he
      split at he
      · rename_i hq
        obtain ⟨rfl, hmax⟩ := hq
        rw [Nat.zero_add] at hmax
        split at he
        · rename_i hk
          subst hk
          cases he
          obtain rfl : us = [] := by have := hx.length; rw [hlen, Nat.zero_mul] at this; exact List.eq_nil_of_length_eq_zero this
          exact ⟨w, _, G, run_append_nothing w t t2 ty e i ht hi _ 0 0 (Nat.le_refl _) v2 S, .refl hr, .sl0 ha h1 h2 h6 h8⟩
        · rename_i hk
          have hul := hx.length
          have hrun := run_append_grow_src (P := P) w t t2 ty e i z ht hi hz (some a0) 0 0 [] (run_firstCells_some (P := P) w.drew i.size 0 _ 0 0 [] (by simp) (fun j u hu => by simp at hu)) v2 k us S (by omega) (by omega) (growslice_fits (by omega) (by simpa using fits hmax hby))
          cases hclip : clip with
          | true =>
            rw [if_pos hclip] at he
            cases hrd : rd h loc off ver (off + 0 * i.size) (0 * i.size) with
            | none => rw [hrd] at he; cases he
            | some ys =>
              rw [hrd] at he
              cases he
              obtain ⟨os, o1, o2, _⟩ := rd_sound hr hrd ha h1 (by omega)
              obtain rfl : os = [] := List.eq_nil_of_length_eq_zero (by omega)
              cases o1
              obtain ⟨G', hS, hV⟩ := grown_row (olds := []) (news := us) (n := 0) (k := k) (cap := grownCap w (0 + k) 0 e) (e := e) hr (by simpa using hx) hzs hsz (by simpa using hlen) (grownCap_ge w _ 0 e) (grownCap_le_maxLen w _ 0 e (by simp only [maxLen]; omega))
              exact ⟨_, _, G', hrun, hS, hV⟩
          | false =>
            rw [if_neg (by rw [hclip]; simp)] at he
            obtain ⟨b, vs, hb, hg, hv, hR⟩ := hr.get ha
            rw [hb] at he
            have hcov := h6 hclip
            cases b with
            | row cells v minv frz ro tt =>
              cases ro with
              | true => simp at he
              | false =>
                simp only at he
                split at he
                · rename_i hver
                  subst hver
                  rcases hR with rfl | hR
                  · simp at hv
                  have htip := (hR.tip r hv).1
                  have hlt : ∀ (v : Nat) (r : Ver), vs[v]? = some r → r.b < w.heap.size := fun v r hv => hr.lt _ _ _ (Gh.at_of hg hv)
                  have hgl : loc < G.length := (List.getElem?_eq_some_iff.1 hg).1
                  split at he
                  · rename_i htop
                    cases he
                    have hge := grownCap_ge w (0 + k) 0 e
                    have hgm := grownCap_le_maxLen w (0 + k) 0 e (by simp only [maxLen]; omega)
                    generalize hgc : grownCap w (0 + k) 0 e = gc at *
                    have hcs : (([] ++ us).toArray ++ Builtin.zeroCells z.cells (gc - (0 + k))).size = gc * i.size := by
                      rw [Array.size_append, List.size_toArray, List.nil_append, hul, hlen, size_zeroCells, hzs, ← Nat.add_mul]; congr 1; omega
                    have hS := Step.upd (vs' := vs ++ [⟨w.heap.size, off, cells.length + xs.length, _, 0⟩]) (w' := w.drew.alloc (.cells (([] ++ us).toArray ++ Builtin.zeroCells z.cells (gc - (0 + k))) e)) (blk' := .row (cells ++ xs) (ver + 1) minv frz false (if tt = some e then tt else none)) hr hb hg rfl rfl ⟨ver, r, hv, rfl⟩ (by simp)
                      (fun k hk _ => (Keep.drewAlloc w _).block k hk (by simp)) rfl rfl rfl
                      (fun v r' h => by rw [List.getElem?_append_left (List.getElem?_eq_some_iff.1 h).1]; exact h)
                      (fun v r' h => by
                        rw [List.getElem?_append] at h
                        split at h
                        · exact .inr ⟨v, r', h, rfl⟩
                        · left
                          cases hd : v - vs.length with
                          | zero => rw [hd] at h; simp at h; subst h; exact ⟨Nat.le_refl _, by simp⟩
                          | succ n => rw [hd] at h; simp at h)
                      (fun hG => .inr (row_out (off := off) tt_keep hR tt_new hx (by omega) hG (Nat.le_refl _) (heap_alloc_new w.drew _) ⟨Nat.le_refl _, fun j _ q => by omega⟩ rfl (fun k hk => (Keep.drewAlloc w _).block k hk (by simp)) hlt (olds := []) (by rw [List.drop_of_length_le (by omega)]; exact .nil)
                        (fun j u hj => by rw [Array.getElem?_append_left (by rw [List.size_toArray]; exact (List.getElem?_eq_some_iff.1 hj).1), List.getElem?_toArray]; exact hj)))
                    refine ⟨_, _, _, hrun, hS, ?_⟩
                    have hnew : Gh.at (G.set loc (vs ++ [⟨w.heap.size, off, cells.length + xs.length, (([] ++ us).toArray ++ Builtin.zeroCells z.cells (gc - (0 + k))).size, 0⟩])) loc (ver + 1) = some ⟨w.heap.size, off, cells.length + xs.length, (([] ++ us).toArray ++ Builtin.zeroCells z.cells (gc - (0 + k))).size, 0⟩ := by
                      rw [at_upd hgl, ← hR.len, List.getElem?_append_right (Nat.le_refl _)]; simp
                    have hmul : (0 + k) * i.size ≤ gc * i.size := Nat.mul_le_mul_right _ hge
                    have := V.sl (G := G.set loc (vs ++ [⟨w.heap.size, off, cells.length + xs.length, (([] ++ us).toArray ++ Builtin.zeroCells z.cells (gc - (0 + k))).size, 0⟩])) (loc := loc) (off := off) (len := 0 + k) (sz := i.size) (clip := false) (cap := gc) hnew (Nat.le_refl _) (by show off + (0 + k) * i.size ≤ cells.length + xs.length; rw [Nat.zero_add]; omega) hge (by show off - off + gc * i.size ≤ (([] ++ us).toArray ++ Builtin.zeroCells z.cells (gc - (0 + k))).size; rw [hcs]; omega) (fun e => by cases e) (fun _ => by show cells.length + xs.length ≤ _; rw [Nat.zero_add] at hmul; omega) hgm h8
                    simpa using this
                  · split at he
                    · rename_i hnt hin
                      exact absurd (by omega) hnt
                    · cases he
                · cases he
            | lay cells => simp at he
            | map es => simp at he
            | iter s pos => simp at he
            | dead => simp at he
            | loop env ps asg body st pd => simp at he
            | dfr => simp at he
            | miter m => simp at he
            | gone => simp at he
      · cases he
    | _ => simp at he
  · cases he
end
end Go.Mx
