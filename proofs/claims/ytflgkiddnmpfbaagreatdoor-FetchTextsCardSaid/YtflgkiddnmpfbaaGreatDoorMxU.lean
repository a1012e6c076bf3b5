/- The given arguments as Lean data; the machine's closed calls as contracts of the calculus. -/
import Derived.Test.YtflgkiddnmpfbaaGreatDoorMxT
import Derived.Test.YtflgkiddnmpfbaaGreatDoorGxK
set_option linter.unusedVariables false
namespace Go.Mx
open Go Go.Gx

/-- What stands below a mark, and is not to be turned. -/
def rGlobOf (Pi : World → Prop) : Rp Unit where
  sz := 0
  rel O w cs _ := cs = [] ∧ ∃ W0, Pi W0 ∧ W0.heap.size ≤ w.heap.size ∧ ∀ b, b < W0.heap.size → b ∉ O ∧ w.heap[b]? = W0.heap[b]?
  len := by rintro O w cs x ⟨rfl, _⟩; rfl
  one := by rintro O w cs x ⟨rfl, _⟩ u hu; cases hu
  mono := by
    rintro O O' w w' cs x ⟨rfl, W0, h1, h2, h3⟩ hO hb hs
    refine ⟨rfl, W0, h1, Nat.le_trans h2 hs, fun b hbb => ?_⟩
    obtain ⟨k1, k2⟩ := h3 b hbb
    exact ⟨fun e => k1 (hO b e (Nat.lt_of_lt_of_le hbb h2)), (hb b (Nat.lt_of_lt_of_le hbb h2) k1).trans k2⟩

section
variable {P : Program} {hgl : Heap} {Gg : Gh} {W0 w : World}
/-- A call that sees the package variables alone, as a contract. -/
theorem closed_keep (hmo : P.follows .mixedOrders = true) (hng : NoNG P) {hk : Hooks} (hh : HOK P hgl Gg hk) (hL : Laid P hgl Gg W0.heap.size W0) (h1 : W0.heap.size ≤ w.heap.size) (h2 : ∀ b, b < W0.heap.size → w.heap[b]? = W0.heap[b]?) {n f : Nat} {b : Bool}
    (hc : ∃ h', mbody P (mrun P hk n) f [] hgl = some (.ret (.bool b) h')) : Calls P f #[] w fun e w' => e = .returned (.bool b) ∧ Keep [] w w' := by
  obtain ⟨h', hc⟩ := hc
  have hL' : Laid P hgl Gg w.heap.size w := hL.at h2 h1 h1 (Nat.le_refl _)
  have hg' : Glob P w.heap.size w Gg w := ⟨hL.g, fun _ _ => rfl⟩
  refine (machine_sound (us := []) hmo hng (hh _ _ hL') hc .nil hL'.hr hg').mono fun e w' hcr => ?_
  obtain ⟨G', hS, u, hv, rfl⟩ := hcr
  cases hv
  refine ⟨rfl, hS.fr.os, hS.fr.tape, hS.fr.output, hS.fr.size, fun b hb _ => hS.fr.low b hb fun loc v r hat hB e => ?_⟩
  have := hL'.low _ _ _ hat; omega
end
def retIs (v : Bool) : Option CR → Bool
  | some (.ret (.bool b) _) => b == v
  | _ => false
theorem retIs_spec {v : Bool} {o : Option CR} (h : retIs v o = true) : ∃ h', o = some (.ret (.bool v) h') := by
  unfold retIs at h
  split at h
  · rename_i b h'; exact ⟨h', by rw [eq_of_beq h]⟩
  · cases h

section
variable {H : Type} {enc : TypeId × Value → H} {P : Program} {W : World}
/-- A variable that the row does not list, of an integer's type: some integer. -/
theorem shaped_int {P : Program} {w : World} {g : Nat} {t : TypeId} {zero : Array Value} {k : IntKind} (h : w.ShapedOpen P) (hg : g < P.globals.size)
    (h0 : ((begin P (fun _ _ => 0) default).world.heap[g]?).bind Obj.row? = some (zero, t)) (hz : zero.size = 1)
    (hb : P.buildable t = true) (hc : P.cellTypes P.depth t = some [t]) (hu : P.underlying t = some (.int k)) :
    ∃ m c T fr, w.heap[g]? = some (.cells c T fr) ∧ c.size = 1 ∧ c[0]? = some (.int k m) ∧ k.min ≤ m ∧ m ≤ k.max := by
  obtain ⟨cs, hh, hs, hr⟩ := h.1 g zero t hg h0
  obtain ⟨ts, hts, _, hall⟩ := hr hb
  rw [hc] at hts
  cases hts
  have h1 : 0 < cs.size := by omega
  obtain ⟨u, hu', hok⟩ := hall 0 cs[0] (by simp [h1])
  have : u = t := by simpa using hu'.symm
  subst this
  unfold Cell.ok at hok
  rw [hu] at hok
  cases hv : cs[0] <;> rw [hv] at hok <;> simp at hok
  case int k' n =>
    obtain ⟨rfl, h2, h3⟩ := hok
    exact ⟨n, cs, _, _, hh, by omega, by rw [Array.getElem?_eq_getElem h1, hv], h2, h3⟩
theorem shaped_size {P : Program} {w : World} (h : w.ShapedOpen P) (h0 : ((((begin P (fun _ _ => 0) default).world.heap[P.globals.size - 1]?).bind Obj.row?).isSome && decide (0 < P.globals.size)) = true) : P.globals.size ≤ w.heap.size := by
  simp only [Bool.and_eq_true, decide_eq_true_eq] at h0
  obtain ⟨⟨zero, t⟩, h1⟩ := Option.isSome_iff_exists.1 h0.1
  obtain ⟨cs, hh, _⟩ := h.1 (P.globals.size - 1) zero t (by omega) h1
  have := (Array.getElem?_eq_some_iff.1 hh).1
  omega
/-- THE PACKAGE VARIABLES, with one that the row does not list. -/
theorem laid_iv {P : Program} {w : World} {laid : List (String × DataW Unit)} {m : Nat} {hgl : Heap} (hn : P.globals.size ≤ w.heap.size) (hm : laidMet P laid w) (hne : laid.isEmpty = false) (hl : layVars P m laid (Arr.of (List.replicate P.globals.size .dead)) = some hgl)
    {g : Nat} {c : Array Value} {T : TypeId} {fr : Nat × Nat} {z lo hi : Int} (hd : hgl[g]? = some .dead) (hgt : ((P.globals[g]?).map fun v => P.cellsOf v.type) = some 1) (hc : w.heap[g]? = some (.cells c T fr)) (hcs : c.size = 1) (hc0 : c[0]? = some (.int .i64 z)) (h1 : lo ≤ z) (h2 : z ≤ hi) :
    ∃ Gg, Laid P (hgl.set g (.lay [.iv lo hi])) Gg w.heap.size w := by
  obtain ⟨ps, hv, _⟩ := hm
  obtain ⟨G, hr, hx⟩ := layVars_sound rfl (laid_cells hv hne) m hv hl (laid_start hn) (Gh.ext_refl _)
  obtain ⟨v, ev, ecells⟩ := Option.map_eq_some_iff.1 hgt
  have hgl' : g < P.globals.size := (Array.getElem?_eq_some_iff.1 ev).1
  have hgv : (varsG P)[g]? = some [⟨g, 0, P.cellsOf v.type, P.cellsOf v.type, 0⟩] := by
    unfold varsG
    rw [List.getElem?_map, List.getElem?_range hgl']
    simp only [Option.map_some, ev]
  have hr2 := hr.setRo (blk' := .lay [.iv lo hi]) hd rfl rfl (hx.get hgv) (.inr ⟨_, rfl, rfl, by simp [ecells], c, T, fr, hc, by simp [ecells, hcs], by simp [ecells], fun p hp => by
    have hp0 : p = 0 := by
      have : p < P.cellsOf v.type := hp
      omega
    subst hp0
    exact ⟨_, _, rfl, by simpa using hc0, .iv h1 h2⟩⟩)
  refine ⟨G, hr2, fun loc v r hat => hr2.lt _ _ _ hat, fun g hg => ?_⟩
  have hv : P.globals[g]? = some P.globals[g] := Array.getElem?_eq_getElem hg
  have hgv : (varsG P)[g]? = some [⟨g, 0, P.cellsOf (P.globals[g]).type, P.cellsOf (P.globals[g]).type, 0⟩] := by
    unfold varsG
    rw [List.getElem?_map, List.getElem?_range hg]
    simp only [Option.map_some, hv]
  exact ⟨_, Gh.at_of (hx.get hgv) rfl, rfl, rfl, rfl⟩
theorem not_agg {P : Program} {W : World} {r : Reach} {base : Nat} {t : TypeId} {cs : Array Value} (ha : aggT P t = some false) (h : Value.okWide P W r base t (.agg cs)) : False := by
  unfold Value.okWide at h
  unfold aggT at ha
  cases hu : P.underlying t with
  | none => rw [hu] at ha; cases ha
  | some d =>
    rw [hu] at ha h
    cases d <;> first | (cases ha; done) | (simp [Cell.okWide, Cell.ok, hu] at h; done)
theorem val_agg {P : Program} {W : World} {r : Reach} {base : Nat} {t : TypeId} {v : Value} (ha : aggT P t = some true) (h : Value.okWide P W r base t v) : ∃ l : List Value, v = .agg (List.toArray l) := by
  unfold aggT at ha
  unfold Value.okWide at h
  cases hu : P.underlying t with
  | none => rw [hu] at ha; cases ha
  | some d =>
    rw [hu] at ha h
    cases d <;> first | (cases ha; done) | (obtain ⟨cs, rfl, _⟩ := h; exact ⟨cs.toList, by simp⟩)
theorem val_one {P : Program} {W : World} {r : Reach} {base : Nat} {t : TypeId} {v x : Value} (ha : aggT P t = some false) (h : Value.okWide P W r base t v) (hc : v.cells.toList = [x]) : v = x := by
  cases v with
  | agg cs => exact (not_agg ha h).elim
  | _ => simpa [Value.cells] using hc
/-- What reads, reads as Lean data. -/
def Rds (enc : TypeId × Value → H) (P : Program) (W : World) {τ : Type} (r : Rp τ) (t : TypeId) (Q : τ → Prop) : Prop :=
  r.sz = P.cellsOf t ∧ ∀ n cs d p, DataW.trod enc P W 0 (fun _ => true) true n t cs = some (d, p) → ∃ x, r.rel [] W cs x ∧ Q x
theorem rds_int {k : IntKind} {t : TypeId} (ht : P.underlying t = some (.int k)) (hs : P.cellsOf t = 1) : Rds enc P W (rInt k) t (fun x => k.min ≤ x ∧ x ≤ k.max) := by
  refine ⟨hs.symm, fun n cs d p h => ?_⟩
  obtain ⟨b, rfl, _, hw⟩ := DataW.trod_int ht h
  refine ⟨b, rfl, ?_⟩
  simpa [Lit.wf] using hw
theorem rds_u8 {t : TypeId} (ht : P.underlying t = some (.int .u8)) (hs : P.cellsOf t = 1) : Rds enc P W rU8 t (fun _ => True) := by
  refine ⟨hs.symm, fun n cs d p h => ?_⟩
  obtain ⟨b, rfl, _, hw⟩ := DataW.trod_int ht h
  have hb : 0 ≤ b ∧ b ≤ 255 := by simpa [Lit.wf, IntKind.min, IntKind.max, IntKind.signed, IntKind.bits] using hw
  refine ⟨UInt8.ofNat b.toNat, ?_, trivial⟩
  show [Value.int .u8 b] = [Value.int .u8 _]
  congr 2
  simp only [UInt8.toNat_ofNat']
  omega
theorem rds_bool {t : TypeId} (ht : P.underlying t = some .bool) (hs : P.cellsOf t = 1) : Rds enc P W rBool t (fun _ => True) := by
  refine ⟨hs.symm, fun n cs d p h => ?_⟩
  obtain ⟨b, rfl, _⟩ := DataW.trod_bool ht h
  exact ⟨b, rfl, trivial⟩
theorem rds_str {t : TypeId} (ht : P.underlying t = some .string) (hs : P.cellsOf t = 1) : Rds enc P W rStr t (fun l => l.length ≤ maxLen) := by
  refine ⟨hs.symm, fun n cs d p h => ?_⟩
  obtain ⟨b, rfl, _, hw⟩ := DataW.trod_string ht h
  exact ⟨b.data.toList, by simp [rStr, Rp.flat, vstr], by show b.data.toList.length ≤ maxLen; rw [Array.length_toList]; exact hw⟩
theorem cells_at {base n : Nat} {a : Addr} {cs : List Value} (h : W.cells? base a n = some cs) (hn : 0 < n) : a.spot = none ∧ ∀ (j : Nat) (u : Value), cs[j]? = some u → W.cell? ⟨a.block, a.off + j, none⟩ = some u := by
  obtain ⟨c, T, fr, h1, h2, h3, h4⟩ := cells_row h hn
  refine ⟨h2, fun j u hu => ?_⟩
  have := h3 j u hu
  simp only [World.cell?, h1]
  simpa [Nat.add_comm] using this
theorem rds_sl {τ : Type} {r : Rp τ} {t e : TypeId} {Q : τ → Prop} (hr : Rds enc P W r e Q) (ht : P.underlying t = some (.slice e)) (hs : P.cellsOf t = 1) (he : 0 < P.cellsOf e) : Rds enc P W (Rp.sl r) t (fun l => l.length ≤ maxLen ∧ ∀ x ∈ l, Q x) := by
  refine ⟨hs.symm, fun n cs d p h => ?_⟩
  rcases DataW.trod_slice ht h with ⟨rfl, _⟩ | ⟨a, len, cap, el, rs, n', rfl, rfl, _, hba, hlc, hcm, hel, hee, hsp, _⟩
  · exact ⟨[], sl_nil _ _ _, by simp, by simp⟩
  · have key : ∀ k, k ≤ len → ∃ (xs : List Value) (l : List τ), RelList r [] W xs l ∧ l.length = k ∧ (∀ x ∈ l, Q x) ∧ xs.length = k * P.cellsOf e ∧ (0 < k → a.spot = none ∧ a.block < W.heap.size) ∧ ∀ (j : Nat) (u : Value), xs[j]? = some u → W.cell? ⟨a.block, a.off + j, none⟩ = some u := by
      intro k
      induction k with
      | zero => intro _; exact ⟨[], [], .nil, rfl, by simp, by simp, fun h => by omega, by simp⟩
      | succ k ih =>
        intro hk
        obtain ⟨xs, l, h1, h2, h3, h4, hsp0, h5⟩ := ih (by omega)
        have h0 := hee k (by omega)
        rw [List.getElem?_eq_getElem (by omega)] at h0
        obtain ⟨cs', e1, e2⟩ := Option.bind_eq_some_iff.1 h0
        obtain ⟨x, x1, x2⟩ := hr.2 n' cs' _ _ e2
        obtain ⟨s1, s2⟩ := cells_at e1 he
        rw [(add_spec a _).1, (add_spec a _).2] at s2
        have hcl := (cells_spec e1).1
        have hspot : a.spot = none := by
          rcases Nat.eq_zero_or_pos k with hk0 | hk0
          · subst hk0
            have : a.add (0 * P.cellsOf e) = a := by simp [Addr.add]
            rw [this] at s1
            exact s1
          · exact (hsp0 hk0).1
        have hblk : a.block < W.heap.size := by
          obtain ⟨c, T, fr, q1, _⟩ := cells_row e1 he
          rw [(add_spec a _).1] at q1
          exact (Array.getElem?_eq_some_iff.1 q1).1
        refine ⟨xs ++ cs', l ++ [x], h1.append (.single x1), by simp [h2], ?_, by rw [List.length_append, h4, hcl, Nat.add_mul]; omega, fun _ => ⟨hspot, hblk⟩, fun j u hu => ?_⟩
        · intro y hy
          rcases List.mem_append.1 hy with hy | hy
          · exact h3 y hy
          · simp at hy; subst hy; exact x2
        · rw [List.getElem?_append] at hu
          split at hu
          · exact h5 j u hu
          · have := s2 _ u hu
            rwa [h4, show a.off + k * P.cellsOf e + (j - k * P.cellsOf e) = a.off + j from by omega] at this
    obtain ⟨xs, l, h1, h2, h3, h4, h5, h6⟩ := key len (Nat.le_refl _)
    subst h2
    refine ⟨l, ⟨some a, cap, xs, rfl, hlc, h1, ?_⟩, by omega, h3⟩
    cases l with
    | nil => exact .inl rfl
    | cons x l =>
      obtain ⟨s1, s2⟩ := h5 (by simp)
      obtain ⟨ab, ao, as⟩ := a
      simp only at s1
      subst s1
      exact .inr ⟨ab, ao, rfl, s2, by simp, h6⟩

/-- Parts side by side. -/
def Rsq (enc : TypeId × Value → H) (P : Program) (W : World) {τ : Type} (r : Rp τ) (ts : List TypeId) (Q : τ → Prop) : Prop :=
  r.sz = (ts.map P.cellsOf).sum ∧ ∀ (css : List (List Value)), css.length = ts.length → (∀ (i : Nat) (t : TypeId) (cs : List Value), ts[i]? = some t → css[i]? = some cs → ∃ n d p, DataW.trod enc P W 0 (fun _ => true) true n t cs = some (d, p)) → ∃ x, r.rel [] W css.flatten x ∧ Q x
theorem rsq_one {τ : Type} {r : Rp τ} {t : TypeId} {Q : τ → Prop} (h : Rds enc P W r t Q) : Rsq enc P W r [t] Q := by
  refine ⟨by simpa using h.1, fun css hl hc => ?_⟩
  match css, hl with
  | [cs], _ =>
    obtain ⟨n, d, p, hd⟩ := hc 0 t cs rfl rfl
    simpa using h.2 n cs d p hd
theorem rsq_pair {α β : Type} {r : Rp α} {s : Rp β} {t : TypeId} {ts : List TypeId} {Q : α → Prop} {R : β → Prop} (h : Rds enc P W r t Q) (k : Rsq enc P W s ts R) : Rsq enc P W (Rp.pair r s) (t :: ts) (fun x => Q x.1 ∧ R x.2) := by
  refine ⟨by simp [Rp.pair, h.1, k.1], fun css hl hc => ?_⟩
  match css, hl with
  | cs :: css, hl =>
    obtain ⟨n, d, p, hd⟩ := hc 0 t cs rfl rfl
    obtain ⟨x, x1, x2⟩ := h.2 n cs d p hd
    obtain ⟨y, y1, y2⟩ := k.2 css (by simpa using hl) (fun i t cs e1 e2 => hc (i + 1) t cs (by simpa using e1) (by simpa using e2))
    exact ⟨(x, y), ⟨cs, css.flatten, by simp, x1, y1⟩, x2, y2⟩
theorem rds_struct {α β : Type} {r : Rp α} {f : β → α} {t : TypeId} {fs : Array Field} {Q : α → Prop} (ht : P.underlying t = some (.struct fs)) (hfl : flush P fs.toList 0 (P.cellsOf t) = true) (h : Rsq enc P W r (fs.toList.map (·.type)) Q) (hsz : ((fs.toList.map (·.type)).map P.cellsOf).sum = P.cellsOf t)
    (hf : ∀ a, ∃ b, f b = a) : Rds enc P W (Rp.via r f) t (fun x => Q (f x)) := by
  refine ⟨h.1.trans hsz, fun n cs d p hd => ?_⟩
  obtain ⟨ys, n', rfl, he, hlen, hyl, hy⟩ := DataW.trod_struct ht hd
  have hflat := flush_flat (cs := cs) hfl hlen (Nat.zero_le _)
  rw [List.drop_zero] at hflat
  obtain ⟨x, x1, x2⟩ := h.2 (fs.toList.map fun f => (cs.drop f.offset).take (P.cellsOf f.type)) (by simp) (fun i t cs' e1 e2 => by
    rw [List.getElem?_map, Option.map_eq_some_iff] at e1 e2
    obtain ⟨f1, g1, rfl⟩ := e1
    obtain ⟨f2, g2, rfl⟩ := e2
    rw [g1] at g2; cases g2
    have h0 := hy i f1 (by simpa using g1)
    have hi : i < ys.length := by rw [hyl]; have := (List.getElem?_eq_some_iff.1 g1).1; simpa using this
    rw [List.getElem?_eq_getElem hi] at h0
    exact ⟨n', _, _, h0⟩)
  rw [hflat] at x1
  obtain ⟨b, rfl⟩ := hf x
  exact ⟨b, x1, x2⟩
/-- One argument. -/
theorem trodAll1 {t : TypeId} {ts : List TypeId} {vs : List Value} {ds : List (DataW H)} {ps : List MemPlace} (h : DataW.TrodAll enc P W 0 (fun _ => true) true (t :: ts) vs ds ps) :
    ∃ v vs' d ds' p q, vs = v :: vs' ∧ ds = d :: ds' ∧ (∃ n, DataW.trod enc P W 0 (fun _ => true) true n t v.cells.toList = some (d, p)) ∧ DataW.TrodAll enc P W 0 (fun _ => true) true ts vs' ds' q := by
  match vs, ds, h with
  | v :: vs', d :: ds', h => obtain ⟨p, q, h1, h2, _⟩ := h; exact ⟨v, vs', d, ds', p, q, rfl, rfl, h1, h2⟩
theorem trodAll0 {vs : List Value} {ds : List (DataW H)} {ps : List MemPlace} (h : DataW.TrodAll enc P W 0 (fun _ => true) true [] vs ds ps) : vs = [] ∧ ds = [] := by
  match vs, ds, h with
  | [], [], _ => exact ⟨rfl, rfl⟩
end
end Go.Mx
