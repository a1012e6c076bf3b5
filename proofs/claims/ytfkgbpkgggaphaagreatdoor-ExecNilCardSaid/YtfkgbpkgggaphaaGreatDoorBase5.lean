/- The calculus of walks and the machines, part 5. -/
import Derived.Test.YtfkgbpkgggaphaaGreatDoorBase4
import Derived.Test.YtfkgbpkgggaphaaGreatDoorBase2
/- Closed calls that leave something in memory, as S knows them. -/
set_option linter.unusedVariables false
set_option linter.unusedSimpArgs false
namespace Go.Sx
open Go Go.Gx Go.Mx

/-! Places moved on by s. -/
mutual
def SV.up (s : Nat) : SV → SV
  | .ptr loc off lim => .ptr (loc + s) off lim
  | .map loc => .map (loc + s)
  | .gs loc n => .gs (loc + s) n
  | .fn f v1 v2 => .fn f (SV.upL s v1) (SV.upL s v2)
  | .ifc t v => .ifc t (SV.up s v)
  | .agg l => .agg (SV.upL s l)
  | .tup l => .tup (SV.upL s l)
  | v => v
def SV.upL (s : Nat) : List SV → List SV
  | [] => []
  | x :: l => SV.up s x :: SV.upL s l
end
def SB.up (s : Nat) : SB → SB
  | .cells l md => .cells (SV.upL s l) md
  | .map ks vs md => .map (SV.upL s ks) (SV.upL s vs) md
  | b => b
/-! Whether S's value stands for M's. -/
mutual
def chkV (n : Nat) (idx : List (Nat × Nat)) (sbs : List SB) : SV → AV → Bool
  | .top, _ => true
  | .a w, x => AV.beq w x && w.scal1
  | .u8 b, x => AV.beq (.int .u8 (b.toNat : Int)) x
  | .ptr j off lim, .ptr loc off' ver lim' => match idx[j]? with
    | some (i, v) => Nat.beq v 0 && (Nat.beq loc (n + i) && (Nat.beq ver 0 && (Nat.beq off off' && Nat.beq lim lim')))
    | none => false
  | .map j, .map loc => match idx[j]? with
    | some (i, v) => Nat.beq v 0 && Nat.beq loc (n + i)
    | none => false
  | .gs j k, .sl loc off len sz ver c => match idx[j]?, sbs[j]? with
    | some (i, v), some (.seq u l k' _) => Nat.beq k k' && (Nat.beq loc (n + i) && (Nat.beq ver v && (Nat.beq off 0 && (Nat.beq len l.length && (Nat.beq sz u.sz && !c)))))
    | _, _ => false
  | .lsl k, .sl _ _ len _ _ _ => Nat.beq k len
  | .lsl k, .nils => Nat.beq k 0
  | .fn f a b, .fn f' a' b' => Nat.beq f f' && (chkVs n idx sbs a a' && chkVs n idx sbs b b')
  | .ifc t v, .ifc t' v' => Nat.beq t t' && chkV n idx sbs v v'
  | .agg l, .agg l' => chkVs n idx sbs l l'
  | .tup l, .tup l' => chkVs n idx sbs l l'
  | _, _ => false
def chkVs (n : Nat) (idx : List (Nat × Nat)) (sbs : List SB) : List SV → List AV → Bool
  | [], [] => true
  | v :: l, x :: r => chkV n idx sbs v x && chkVs n idx sbs l r
  | _, _ => false
end
def chkB (n : Nat) (idx : List (Nat × Nat)) (sbs : List SB) (v : Nat) : SB → Blk → Bool
  | .cells l md, .row cells ver minv frz ro tt => Nat.beq md 0 && (Nat.beq v 0 && (Nat.beq ver 0 && (Nat.beq minv 0 && (Nat.beq frz 0 && (!ro && chkVs n idx sbs l cells)))))
  | .map ks vs md, .map es => Nat.beq md 0 && (Nat.beq v 0 && (chkVs n idx sbs ks (es.map (·.1)) && chkVs n idx sbs vs (es.map (·.2))))
  | .seq .u8 l _ md, .row cells ver minv frz ro tt => Nat.beq md 0 && (Nat.beq ver v && (Nat.ble minv ver && (Nat.beq frz 0 && (!ro && AV.beqL cells (l.map fun b => .int .u8 (b.toNat : Int))))))
  | _, _ => false
def chkBs (n : Nat) (idx0 : List (Nat × Nat)) (sbs0 : List SB) (bs : List Blk) : List SB → List (Nat × Nat) → Bool
  | [], [] => true
  | b :: l, (i, v) :: r => (match bs[i]? with
    | some blk => chkB n idx0 sbs0 v b blk
    | none => false) && chkBs n idx0 sbs0 bs l r
  | _, _ => false
def nodupN : List Nat → Bool
  | [] => true
  | x :: l => !(l.any (Nat.beq x)) && nodupN l
def chkC (n : Nat) (vS : SV) (sbs : List SB) (idx : List (Nat × Nat)) (vM : AV) (bs : List Blk) : Bool := chkV n idx sbs vS vM && (nodupN (idx.map (·.1)) && chkBs n idx sbs bs sbs idx)

theorem up_scal1 {n s : Nat} {w : AV} (h : w.scal1 = true) : AV.up n s w = w := by cases w <;> first | rfl | cases h
section
variable {Y : Gst} {n s L : Nat} {idx : List (Nat × Nat)} {sbs : List SB}
mutual
theorem chkV_sound (hσ : ∀ (j i ver : Nat), idx[j]? = some (i, ver) → Y.σ[j + L]? = some (some (i + s, ver))) (hsh : ∀ (j : Nat) (b : SB), sbs[j]? = some b → Y.sh[j + L]? = some (b.up L)) : ∀ {v : SV} {x : AV}, chkV n idx sbs v x = true → RV Y (v.up L) (x.up n s)
  | .top, _, _ => trivial
  | .a w, x, h => by
    simp only [chkV, Bool.and_eq_true] at h
    have e := AV.beq_eq _ _ h.1
    subst e
    rw [up_scal1 h.2]; rfl
  | .u8 b, x, h => by
    simp only [chkV] at h
    have e := AV.beq_eq _ _ h
    subst e; rfl
  | .ptr j off lim, x, h => by
    cases x <;> first | (simp [chkV] at h; done) | skip
    rename_i loc off' ver lim'
    simp only [chkV] at h
    split at h
    · rename_i i v hi
      simp only [Bool.and_eq_true] at h
      obtain ⟨h0, h1, h2, h3, h4⟩ := h
      cases Nat.eq_of_beq_eq_true h0; cases Nat.eq_of_beq_eq_true h1; cases Nat.eq_of_beq_eq_true h2; cases Nat.eq_of_beq_eq_true h3; cases Nat.eq_of_beq_eq_true h4
      exact ⟨i + s, ⟨0, hσ _ _ _ hi⟩, by rw [AV.up, Nat.add_sub_cancel_left]⟩
    · cases h
  | .map j, x, h => by
    cases x <;> first | (simp [chkV] at h; done) | skip
    simp only [chkV] at h
    split at h
    · rename_i i v hi
      simp only [Bool.and_eq_true] at h
      cases Nat.eq_of_beq_eq_true h.1; cases Nat.eq_of_beq_eq_true h.2
      exact ⟨i + s, ⟨0, hσ _ _ _ hi⟩, by rw [AV.up, Nat.add_sub_cancel_left]⟩
    · cases h
  | .gs j k, x, h => by
    cases x <;> first | (simp [chkV] at h; done) | skip
    rename_i loc off len sz ver c
    simp only [chkV] at h
    split at h
    · rename_i i v u l k' md hi hb
      simp only [Bool.and_eq_true] at h
      obtain ⟨h0, h1, h2, h3, h4, h5, h6⟩ := h
      cases Nat.eq_of_beq_eq_true h0; cases Nat.eq_of_beq_eq_true h1; cases Nat.eq_of_beq_eq_true h2; cases Nat.eq_of_beq_eq_true h3; cases Nat.eq_of_beq_eq_true h4; cases Nat.eq_of_beq_eq_true h5
      refine ⟨rfl, _, hσ _ _ _ hi, fun u' l' k'' md' hb' => ?_⟩
      have := hsh _ _ hb
      rw [this] at hb'
      cases hb'
      refine ⟨Nat.le_refl _, fun _ => ?_⟩
      cases c with
      | true => cases h6
      | false => show AV.up n s _ = _; rw [AV.up, Nat.add_sub_cancel_left]
    · cases h
  | .lsl k, x, h => by
    cases x <;> first | (simp [chkV] at h; done) | skip
    · simp only [chkV] at h; cases Nat.eq_of_beq_eq_true h; exact .inl ⟨rfl, rfl⟩
    · simp only [chkV] at h; cases Nat.eq_of_beq_eq_true h; exact .inr ⟨_, _, _, _, _, rfl⟩
  | .fn f a b, x, h => by
    cases x <;> first | (simp [chkV] at h; done) | skip
    simp only [chkV, Bool.and_eq_true] at h
    cases Nat.eq_of_beq_eq_true h.1
    exact ⟨_, _, rfl, chkVs_sound hσ hsh h.2.1, chkVs_sound hσ hsh h.2.2⟩
  | .ifc t v, x, h => by
    cases x <;> first | (simp [chkV] at h; done) | skip
    simp only [chkV, Bool.and_eq_true] at h
    cases Nat.eq_of_beq_eq_true h.1
    exact ⟨_, rfl, chkV_sound hσ hsh h.2⟩
  | .agg l, x, h => by
    cases x <;> first | (simp [chkV] at h; done) | skip
    simp only [chkV] at h
    exact ⟨_, rfl, chkVs_sound hσ hsh h⟩
  | .tup l, x, h => by
    cases x <;> first | (simp [chkV] at h; done) | skip
    simp only [chkV] at h
    exact ⟨_, rfl, chkVs_sound hσ hsh h⟩
  | .eptr .., x, h => by simp [chkV] at h
  | .iptr .., x, h => by simp [chkV] at h
  | .sl .., x, h => by simp [chkV] at h
  | .isl .., x, h => by simp [chkV] at h
  | .cl .., x, h => by simp [chkV] at h
  | .nsl .., x, h => by simp [chkV] at h
  | .aptr .., x, h => by simp [chkV] at h
  | .csl .., x, h => by simp [chkV] at h
  | .imap .., x, h => by simp [chkV] at h
  | .gptr .., x, h => by simp [chkV] at h
  | .yld .., x, h => by simp [chkV] at h
theorem chkVs_sound (hσ : ∀ (j i ver : Nat), idx[j]? = some (i, ver) → Y.σ[j + L]? = some (some (i + s, ver))) (hsh : ∀ (j : Nat) (b : SB), sbs[j]? = some b → Y.sh[j + L]? = some (b.up L)) : ∀ {v : List SV} {x : List AV}, chkVs n idx sbs v x = true → RVs Y (SV.upL L v) (AV.upL n s x)
  | [], [], _ => rfl
  | [], _ :: _, h => by simp [chkVs] at h
  | _ :: _, [], h => by simp [chkVs] at h
  | v :: l, x :: r, h => by
    simp only [chkVs, Bool.and_eq_true] at h
    exact ⟨_, _, rfl, chkV_sound hσ hsh h.1, chkVs_sound hσ hsh h.2⟩
end
theorem chkB_sound (hσ : ∀ (j i ver : Nat), idx[j]? = some (i, ver) → Y.σ[j + L]? = some (some (i + s, ver))) (hsh : ∀ (j : Nat) (b : SB), sbs[j]? = some b → Y.sh[j + L]? = some (b.up L)) {b : SB} {v m : Nat} {blk : Blk} (h : chkB n idx sbs v b blk = true) (hm : Y.h[m]? = some (blk.up n s)) : RB Y (b.up L) (some (m, v)) ∧ (b.up L).md = 0 := by
  cases b with
  | cells l md =>
    cases blk <;> first | (simp [chkB] at h; done) | skip
    rename_i cells ver minv frz ro tt
    simp only [chkB, Bool.and_eq_true] at h
    obtain ⟨h0, h1, h2, h3, h4, h5, h6⟩ := h
    cases Nat.eq_of_beq_eq_true h0; cases Nat.eq_of_beq_eq_true h1; cases Nat.eq_of_beq_eq_true h2; cases Nat.eq_of_beq_eq_true h3; cases Nat.eq_of_beq_eq_true h4
    cases ro with
    | true => cases h5
    | false => exact ⟨⟨m, _, tt, rfl, hm, chkVs_sound hσ hsh h6⟩, rfl⟩
  | map ks vs md =>
    cases blk <;> first | (simp [chkB] at h; done) | skip
    rename_i es
    simp only [chkB, Bool.and_eq_true] at h
    obtain ⟨h0, h1, h2, h3⟩ := h
    cases Nat.eq_of_beq_eq_true h0; cases Nat.eq_of_beq_eq_true h1
    have k1 := chkVs_sound (n := n) (s := s) hσ hsh h2
    have k2 := chkVs_sound (n := n) (s := s) hσ hsh h3
    rw [AV.upL_map, List.map_map] at k1 k2
    exact ⟨⟨m, _, rfl, hm, by rw [List.map_map]; exact k1, by rw [List.map_map]; exact k2⟩, rfl⟩
  | seq u l k md =>
    cases u <;> first | (simp [chkB] at h; done) | skip
    cases blk <;> first | (simp [chkB] at h; done) | skip
    rename_i cells ver minv frz ro tt
    simp only [chkB, Bool.and_eq_true] at h
    obtain ⟨h0, h1, h2, h3, h4, h5⟩ := h
    cases Nat.eq_of_beq_eq_true h0; cases Nat.eq_of_beq_eq_true h1; cases Nat.eq_of_beq_eq_true h3
    have e := AV.beqL_eq _ _ h5
    subst e
    cases ro with
    | true => cases h4
    | false =>
      have eup : AV.upL n s (l.map fun b => AV.int .u8 (b.toNat : Int)) = l.map fun b => AV.int .u8 (b.toNat : Int) := by
        rw [AV.upL_map, List.map_map]; rfl
      refine ⟨⟨_, minv, tt, hm, Nat.le_of_ble_eq_true h2, ?_, fun e => by cases e⟩, rfl⟩
      rw [eup]
      refine ⟨by simp [U.sz], fun i e hi => ?_⟩
      rw [part_eq]
      show _ = [AV.int .u8 (e.toNat : Int)]
      have hi' : (l.map fun b => AV.int .u8 (b.toNat : Int))[i]? = some (AV.int .u8 (e.toNat : Int)) := by rw [List.getElem?_map, hi]; rfl
      obtain ⟨hlt, e2⟩ := List.getElem?_eq_some_iff.1 hi'
      rw [show i * U.u8.sz = i from Nat.mul_one i, show U.u8.sz = 1 from rfl, List.drop_eq_getElem_cons hlt, e2]; rfl
  | kv => simp [chkB] at h
  | gone => simp [chkB] at h
end
theorem nodupN_sound : ∀ {l : List Nat}, nodupN l = true → ∀ (i j x : Nat), l[i]? = some x → l[j]? = some x → i = j
  | [], _, i, j, x, h1, _ => by simp at h1
  | y :: l, h, i, j, x, h1, h2 => by
    simp only [nodupN, Bool.and_eq_true] at h
    have hy : ∀ (k : Nat), l[k]? = some y → False := fun k hk => by
      have : l.any (Nat.beq y) = true := List.any_eq_true.2 ⟨y, List.mem_of_getElem? hk, Nat.beq_refl y⟩
      rw [this] at h; exact absurd h.1 (by simp)
    cases i with
    | zero => cases j with
      | zero => rfl
      | succ j => simp at h1 h2; subst h1; exact (hy j h2).elim
    | succ i => cases j with
      | zero => simp at h1 h2; subst h2; exact (hy i h1).elim
      | succ j => rw [nodupN_sound h.2 i j x (by simpa using h1) (by simpa using h2)]
/-- New blocks, of which some are S's. -/
theorem Stp.pushs {X : Gst} (hr : RH X) (bs : List Blk) (idx : List (Nat × Nat)) (sbs : List SB) (hl : idx.length = sbs.length) (hlt : ∀ p ∈ idx, p.1 < bs.length) (hnd : ∀ (i j x : Nat), (idx.map (·.1))[i]? = some x → (idx.map (·.1))[j]? = some x → i = j)
    (hmd : ∀ b ∈ sbs, b.md = 0) (hB : ∀ (j : Nat) (b : SB) (p : Nat × Nat), sbs[j]? = some b → idx[j]? = some p → RB ⟨X.h ++ bs, X.Φ, X.σ ++ idx.map (fun p => some (p.1 + X.h.length, p.2)), X.sh ++ sbs⟩ b (some (p.1 + X.h.length, p.2))) :
    Stp X ⟨X.h ++ bs, X.Φ, X.σ ++ idx.map (fun p => some (p.1 + X.h.length, p.2)), X.sh ++ sbs⟩ := by
  have hh : ∀ m, m < X.h.length → (X.h ++ bs)[m]? = X.h[m]? := fun m hm => Arr.get_app_left hm
  have hσ : ∀ (i : Nat), i < X.σ.length → (X.σ ++ idx.map (fun p => some (p.1 + X.h.length, p.2)))[i]? = X.σ[i]? := fun i hi => List.getElem?_append_left hi
  have hσn : ∀ (i : Nat) o, X.σ.length ≤ i → (X.σ ++ idx.map (fun p => some (p.1 + X.h.length, p.2)))[i]? = some o → ∃ p, idx[i - X.σ.length]? = some p ∧ o = some (p.1 + X.h.length, p.2) := fun i o hi h => by
    rw [List.getElem?_append_right hi, List.getElem?_map, Option.map_eq_some_iff] at h
    obtain ⟨p, h1, rfl⟩ := h; exact ⟨p, h1, rfl⟩
  have hle : X.le ⟨X.h ++ bs, X.Φ, X.σ ++ idx.map (fun p => some (p.1 + X.h.length, p.2)), X.sh ++ sbs⟩ := by
    refine ⟨fun m hm => hh m (hr.Φlt m hm), fun _ h => h, by simp, fun loc m v h => ⟨v, ?_⟩, fun loc u l k md hl hs => ?_, hr.len⟩
    · rw [hσ _ (List.getElem?_eq_some_iff.1 h).1]; exact h
    · dsimp only at hs
      rw [List.getElem?_append_left hl] at hs
      exact ⟨l, k, md, hs, Nat.le_refl _, fun _ => ⟨rfl, hσ _ (by rw [hr.len]; exact hl)⟩⟩
  refine ⟨hle, ⟨by simp [hr.len, hl], fun i j m v v' h1 h2 => ?_, fun i m v h1 => ?_, fun m hm => ?_, fun i b' o h1 h2 => ?_, fun i m v b' h1 h2 h3 => ?_⟩, ⟨?_, fun m hm _ => hh m hm, fun i b' hb hm => ⟨b', ?_, hm⟩, fun i m v h1 hm => ?_, fun i h => ⟨(List.getElem?_append_left (List.getElem?_eq_some_iff.1 h).1).trans h, hσ _ (by rw [hr.len]; exact (List.getElem?_eq_some_iff.1 h).1)⟩, fun _ _ h => .inl h⟩⟩
  · dsimp only at h1 h2
    by_cases hi : i < X.σ.length <;> by_cases hj : j < X.σ.length
    · rw [hσ _ hi] at h1; rw [hσ _ hj] at h2; exact hr.inj _ _ _ _ _ h1 h2
    · rw [hσ _ hi] at h1
      obtain ⟨p, q1, q2⟩ := hσn _ _ (by omega) h2
      cases q2
      have := hr.lt _ _ _ h1; omega
    · rw [hσ _ hj] at h2
      obtain ⟨p, q1, q2⟩ := hσn _ _ (by omega) h1
      cases q2
      have := hr.lt _ _ _ h2; omega
    · obtain ⟨p, q1, q2⟩ := hσn _ _ (by omega) h1
      obtain ⟨p', q3, q4⟩ := hσn _ _ (by omega) h2
      have e1 := (Prod.mk.inj (Option.some.inj q2)).1
      have e2 := (Prod.mk.inj (Option.some.inj q4)).1
      have := hnd (i - X.σ.length) (j - X.σ.length) p.1 (by rw [List.getElem?_map, q1]; rfl) (by rw [List.getElem?_map, q3]; show some p'.1 = _; congr 1; omega)
      omega
  · show m < (X.h ++ bs).length
    rw [Arr.length_app]
    dsimp only at h1
    by_cases hi : i < X.σ.length
    · rw [hσ _ hi] at h1; have := hr.lt _ _ _ h1; omega
    · obtain ⟨p, q1, q2⟩ := hσn _ _ (by omega) h1
      have e1 := (Prod.mk.inj (Option.some.inj q2)).1
      have := hlt p (List.mem_of_getElem? q1); omega
  · show m < (X.h ++ bs).length
    have := hr.Φlt m hm; rw [Arr.length_app]; omega
  · dsimp only at h1 h2
    by_cases hi : i < X.sh.length
    · rw [List.getElem?_append_left hi] at h1
      rw [hσ _ (by rw [hr.len]; exact hi)] at h2
      exact (hr.blk i b' o h1 h2).le hle fun m v e => hh m (hr.lt i m v (e ▸ h2))
    · rw [List.getElem?_append_right (by omega)] at h1
      obtain ⟨p, q1, rfl⟩ := hσn _ _ (by rw [hr.len]; omega) h2
      rw [hr.len] at q1
      exact hB _ _ _ h1 q1
  · dsimp only at h1 h2
    by_cases hi : i < X.sh.length
    · rw [List.getElem?_append_left hi] at h1
      rw [hσ _ (by rw [hr.len]; exact hi)] at h2
      exact hr.own i m v b' h1 h2 h3
    · obtain ⟨p, q1, q2⟩ := hσn _ _ (by rw [hr.len]; omega) h2
      have e1 := (Prod.mk.inj (Option.some.inj q2)).1
      have := hr.Φlt m h3; omega
  · show _ ≤ (X.h ++ bs).length
    rw [Arr.length_app]; omega
  · show (X.sh ++ sbs)[i]? = _
    rw [List.getElem?_append_left (List.getElem?_eq_some_iff.1 hb).1]; exact hb
  · dsimp only at h1
    by_cases hi : i < X.σ.length
    · rw [hσ _ hi] at h1; exact ⟨v, h1⟩
    · obtain ⟨p, q1, q2⟩ := hσn _ _ (by omega) h1
      have e1 := (Prod.mk.inj (Option.some.inj q2)).1
      omega
/-- A closed call. -/
def closedF (args0 : List AV) (v : SV) (sbs : List SB) : CF := fun R args h κ => match toAs args with
  | some ws => match AV.beqL ws args0 with
    | true => κ (.ret (SV.up h.length v) (h ++ sbs.map (SB.up h.length)))
    | false => none
  | none => none
theorem chkBs_get {n : Nat} {idx0 : List (Nat × Nat)} {sbs0 : List SB} {bs : List Blk} : ∀ {sbs : List SB} {idx : List (Nat × Nat)}, chkBs n idx0 sbs0 bs sbs idx = true → idx.length = sbs.length ∧ ∀ (j : Nat) (b : SB) (i v : Nat), sbs[j]? = some b → idx[j]? = some (i, v) → ∃ blk, bs[i]? = some blk ∧ chkB n idx0 sbs0 v b blk = true
  | [], [], _ => ⟨rfl, fun j b i v h => by simp at h⟩
  | [], _ :: _, h => by simp [chkBs] at h
  | _ :: _, [], h => by simp [chkBs] at h
  | b :: l, (i, v) :: r, h => by
    simp only [chkBs, Bool.and_eq_true] at h
    obtain ⟨h1, h2⟩ := chkBs_get h.2
    refine ⟨by simp [h1], fun j b' i' v' q1 q2 => ?_⟩
    cases j with
    | zero =>
      simp at q1 q2
      obtain ⟨rfl, rfl⟩ := q2
      subst q1
      have h0 := h.1
      split at h0
      · exact ⟨_, by assumption, h0⟩
      · cases h0
    | succ j => exact h2 j b' i' v' (by simpa using q1) (by simpa using q2)
theorem closed_sound {P : Program} {gl : GL} {hk : Hooks} {f : FuncId} {args0 : List AV} {n : Nat} {vM : AV} {bs : List Blk} (h : hk f = some (closedG args0 n vM bs)) {vS : SV} {sbs : List SB} {idx : List (Nat × Nat)} (hc : chkC n vS sbs idx vM bs = true) : SndF P gl hk f (closedF args0 vS sbs) := by
  intro R args κ r X margs hk' hargs hr hg
  unfold closedF at hk'
  split at hk'
  · rename_i ws hws
    split at hk'
    · rename_i he
      have e1 := toAs_sound hws hargs
      subst e1
      have e2 := AV.beqL_eq _ _ he
      subst e2
      simp only [chkC, Bool.and_eq_true] at hc
      obtain ⟨c1, c2, c3⟩ := hc
      obtain ⟨hl, hget⟩ := chkBs_get c3
      have hidx : ∀ (j i v : Nat), idx[j]? = some (i, v) → ∃ b blk, sbs[j]? = some b ∧ bs[i]? = some blk ∧ chkB n idx sbs v b blk = true := fun j i v q => by
        have hj : j < sbs.length := by rw [← hl]; exact (List.getElem?_eq_some_iff.1 q).1
        obtain ⟨blk, q1, q2⟩ := hget j sbs[j] i v (List.getElem?_eq_getElem hj) q
        exact ⟨_, blk, List.getElem?_eq_getElem hj, q1, q2⟩
      let Y : Gst := ⟨X.h ++ bs.map (Blk.up n X.h.length), X.Φ, X.σ ++ idx.map (fun p => some (p.1 + X.h.length, p.2)), X.sh ++ sbs.map (SB.up X.sh.length)⟩
      have hσ : ∀ (j i ver : Nat), idx[j]? = some (i, ver) → Y.σ[j + X.sh.length]? = some (some (i + X.h.length, ver)) := fun j i ver q => by
        show (X.σ ++ idx.map _)[j + X.sh.length]? = _
        rw [List.getElem?_append_right (by rw [hr.len]; omega), hr.len, Nat.add_sub_cancel, List.getElem?_map, q]; rfl
      have hsh : ∀ (j : Nat) (b : SB), sbs[j]? = some b → Y.sh[j + X.sh.length]? = some (b.up X.sh.length) := fun j b q => by
        show (X.sh ++ sbs.map _)[j + X.sh.length]? = _
        rw [List.getElem?_append_right (by omega), Nat.add_sub_cancel, List.getElem?_map, q]; rfl
      have hS : Stp X Y := by
        refine Stp.pushs hr _ idx _ (by rw [List.length_map]; exact hl) (fun p hp => ?_) (nodupN_sound c2) (fun b hb => ?_) fun j b p q1 q2 => ?_
        · obtain ⟨j, hj⟩ := List.mem_iff_getElem?.1 hp
          obtain ⟨i, v⟩ := p
          obtain ⟨b, blk, k1, k2, k3⟩ := hidx j i v hj
          rw [List.length_map]; exact (List.getElem?_eq_some_iff.1 k2).1
        · obtain ⟨b0, hb0, rfl⟩ := List.mem_map.1 hb
          obtain ⟨j, hj⟩ := List.mem_iff_getElem?.1 hb0
          have hj' : j < idx.length := by rw [hl]; exact (List.getElem?_eq_some_iff.1 hj).1
          obtain ⟨blk, k1, k2⟩ := hget j b0 idx[j].1 idx[j].2 hj (List.getElem?_eq_getElem hj')
          exact (chkB_sound (s := X.h.length) (m := idx[j].1 + X.h.length) hσ hsh k2 (by
            show (X.h ++ bs.map _)[idx[j].1 + X.h.length]? = _
            rw [Arr.get_app_right (by omega), Nat.add_sub_cancel, List.getElem?_map, k1]; rfl)).2
        · rw [List.getElem?_map, Option.map_eq_some_iff] at q1
          obtain ⟨b0, hb0, rfl⟩ := q1
          obtain ⟨i, v⟩ := p
          obtain ⟨blk, k1, k2⟩ := hget j b0 i v hb0 q2
          exact (chkB_sound (s := X.h.length) (m := i + X.h.length) hσ hsh k2 (by
            show (X.h ++ bs.map _)[i + X.h.length]? = _
            rw [Arr.get_app_right (by omega), Nat.add_sub_cancel, List.getElem?_map, k1]; rfl)).1
      refine ⟨_, Y, .ret (AV.up n X.h.length vM) Y.h, hk', hS, ⟨rfl, rfl, chkV_sound hσ hsh c1⟩, Ev.all fun m => ?_⟩
      simp only [mcall, h, closedG, he]
      rfl
    · cases hk'
  · cases hk'
end Go.Sx

/- Plain facts about what S's functions come to. -/
set_option linter.unusedVariables false
namespace Go.Sx
open Go Go.Gx Go.Mx
theorem wri {x : Int} (h : -9223372036854775808 ≤ x) (h' : x ≤ 9223372036854775807) : IntKind.wrap .i64 x = x := by
  simp [IntKind.wrap, IntKind.bits, IntKind.signed]; omega
theorem inb_t {i n : Nat} (h : i < n) : inb (i : Int) n = true := by
  unfold inb; simp; omega
theorem bnds_t {a b n : Nat} (h : a ≤ b) (h' : b ≤ n) : bnds (a : Int) (b : Int) n = true := by
  unfold bnds; simp; omega
theorem nth_t {u : U} {l : List (El u)} {i : Nat} (h : i < l.length) : nth u l i = l[i] := by
  unfold nth; rw [List.getD_eq_getElem?_getD, List.getElem?_eq_getElem h]; rfl
theorem drop_one {α : Type} {l : List α} {i : Nat} (h : i < l.length) : l.drop i = l[i] :: l.drop (i + 1) := List.drop_eq_getElem_cons h
theorem lt_t {i n : Nat} (h : i < n) : decide ((i : Int) < (n : Int)) = true := by simp; omega
theorem lt_f {i n : Nat} (h : ¬ i < n) : decide ((i : Int) < (n : Int)) = false := by simp; omega
theorem slice_take {α : Type} {l : List α} {n : Nat} : slice l 0 n = l.take n := by unfold slice; simp
theorem slice_drop {α : Type} {l : List α} {a : Nat} : slice l a l.length = l.drop a := by
  unfold slice; rw [List.take_of_length_le]; rw [List.length_drop]; exact Nat.le_refl _
/-! Maps. -/
def kvNd (u v : U) : List (El u × El v) → Prop
  | [] => True
  | p :: l => kvFind u v l p.1 = none ∧ kvNd u v l
section
variable {u v : U} (hS : ∀ a b : El u, sameK u a b = true ↔ a = b)
include hS
theorem sameK_refl (a : El u) : sameK u a a = true := (hS a a).2 rfl
theorem sameK_ne {a b : El u} (h : a ≠ b) : sameK u a b = false := by
  cases e : sameK u a b with
  | false => rfl
  | true => exact absurd ((hS a b).1 e) h
theorem kvFind_put (k : El u) (x : El v) (k' : El u) : ∀ m : List (El u × El v), kvFind u v (kvPut u v m k x) k' = cond (sameK u k' k) (some x) (kvFind u v m k')
  | [] => rfl
  | p :: l => by
    by_cases h : k = p.1
    · subst h
      simp only [kvPut, sameK_refl hS, cond_true, kvFind]
      cases sameK u k' p.1 <;> rfl
    · simp only [kvPut, sameK_ne hS h, cond_false, kvFind]
      rw [kvFind_put k x k' l]
      by_cases h1 : k' = p.1
      · subst h1
        simp only [sameK_refl hS, cond_true, sameK_ne hS (Ne.symm h), cond_false]
      · simp only [sameK_ne hS h1, cond_false]
theorem kvNd_put (k : El u) (x : El v) : ∀ {m : List (El u × El v)}, kvNd u v m → kvNd u v (kvPut u v m k x)
  | [], _ => ⟨rfl, trivial⟩
  | p :: l, ⟨h1, h2⟩ => by
    by_cases h : k = p.1
    · subst h
      simp only [kvPut, sameK_refl hS, cond_true]
      exact ⟨h1, h2⟩
    · simp only [kvPut, sameK_ne hS h, cond_false]
      exact ⟨by rw [kvFind_put hS, sameK_ne hS (Ne.symm h), cond_false]; exact h1, kvNd_put k x h2⟩
theorem kvFind_del (k k' : El u) : ∀ {m : List (El u × El v)}, kvNd u v m → kvFind u v (kvDel u v m k) k' = cond (sameK u k' k) none (kvFind u v m k')
  | [], _ => by simp only [kvDel, kvFind]; cases sameK u k' k <;> rfl
  | p :: l, ⟨h1, h2⟩ => by
    by_cases h : k = p.1
    · subst h
      simp only [kvDel, sameK_refl hS, cond_true, kvFind]
      by_cases h3 : k' = p.1
      · subst h3; simp only [sameK_refl hS, cond_true, h1]
      · simp only [sameK_ne hS h3, cond_false]
    · simp only [kvDel, sameK_ne hS h, cond_false, kvFind]
      rw [kvFind_del k k' h2]
      by_cases h3 : k' = p.1
      · subst h3; simp only [sameK_refl hS, cond_true, sameK_ne hS (Ne.symm h), cond_false]
      · simp only [sameK_ne hS h3, cond_false]
theorem kvNd_del (k : El u) : ∀ {m : List (El u × El v)}, kvNd u v m → kvNd u v (kvDel u v m k)
  | [], _ => trivial
  | p :: l, ⟨h1, h2⟩ => by
    by_cases h : k = p.1
    · subst h; simp only [kvDel, sameK_refl hS, cond_true]; exact h2
    · simp only [kvDel, sameK_ne hS h, cond_false]
      exact ⟨by rw [kvFind_del hS k p.1 h2, h1]; cases sameK u p.1 k <;> rfl, kvNd_del k h2⟩
theorem kv_nil {m : List (El u × El v)} : m = [] ↔ ∀ k, kvFind u v m k = none := by
  refine ⟨fun h => h ▸ fun _ => rfl, fun h => ?_⟩
  cases m with
  | nil => rfl
  | cons p l =>
    have := h p.1
    simp only [kvFind, sameK_refl hS, cond_true] at this
    cases this
end
theorem sameK_int {k : IntKind} (a b : El (.int k)) : sameK (.int k) a b = true ↔ a = b := by
  show ((a : Int) == b) = true ↔ _
  exact beq_iff_eq
end Go.Sx

