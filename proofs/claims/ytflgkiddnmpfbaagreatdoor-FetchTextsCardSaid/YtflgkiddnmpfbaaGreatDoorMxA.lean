/- The machine M: its values, its heap, and what they stand for in the model. -/
import Derived.Test.YtflgkiddnmpfbaaGreatDoorGxN
import Derived.RangeFuncLeaves
import Derived.RangeFuncRecord
import Derived.RangeFuncCalls
import Derived.RangeFuncNested
import Derived.OrdersIn
import Derived.LoopNIn
import Derived.TacticsIn
import Derived.Test.YtflgkiddnmpfbaaGreatDoorMxY
namespace Go.Mx
open Go Go.Gx

inductive AV where
  | bool (b : Bool) | int (k : IntKind) (n : Int) | str (l : List UInt8)
  | nilp | ptr (loc off ver lim : Nat)
  | nils | sl (loc off len sz ver : Nat) (clip : Bool)
  | nilm | map (loc : Nat)
  | nilf | fn (f : FuncId) (first cap : List AV)
  | nili | ifc (t : TypeId) (v : AV) | opq
  | agg (l : List AV) | tup (l : List AV)
  | any | iv (lo hi : Int) | yld (loc : Nat)
  deriving Inhabited

/-- A version of a row: the block in which it lies, the place of the block's first cell, up to where it is filled, the block's size. -/
structure Ver where
  b : Nat
  lo : Nat
  top : Nat
  size : Nat
  sh : Nat

abbrev Gh := List (List Ver)
def Gh.at (G : Gh) (loc v : Nat) : Option Ver := (G[loc]?).bind fun vs => vs[v]?
def Gh.le (G G' : Gh) : Prop := ∀ loc v r, G.at loc v = some r → G'.at loc v = some r
theorem Gh.le_refl (G : Gh) : G.le G := fun _ _ _ h => h
theorem Gh.le_trans {a b c : Gh} (h : a.le b) (k : b.le c) : a.le c := fun _ _ _ q => k _ _ _ (h _ _ _ q)

mutual
inductive V (G : Gh) : AV → Value → Prop
  | bool (b : Bool) : V G (.bool b) (.bool b)
  | int (k : IntKind) (n : Int) : V G (.int k n) (.int k n)
  | str (l : List UInt8) : V G (.str l) (vstr l)
  | nilp : V G .nilp (.pointer none)
  | ptr {loc off ver lim : Nat} {r : Ver} (h : G.at loc ver = some r) (h1 : r.lo ≤ off) (h2 : lim ≤ r.top) : V G (.ptr loc off ver lim) (.pointer (some ⟨r.b, off + r.sh - r.lo, none⟩))
  | nils : V G .nils (.slice none 0 0)
  | sl {loc off len sz ver cap : Nat} {clip : Bool} {r : Ver} (h : G.at loc ver = some r) (h1 : r.lo ≤ off) (h2 : off + len * sz ≤ r.top) (h3 : len ≤ cap) (h4 : off + r.sh - r.lo + cap * sz ≤ r.size)
      (h5 : clip = true → cap = len) (h6 : clip = false → r.top ≤ off + cap * sz) (h7 : cap ≤ maxLen) (hz : 0 < sz) : V G (.sl loc off len sz ver clip) (.slice (some ⟨r.b, off + r.sh - r.lo, none⟩) len cap)
  | sl0 {loc off sz ver : Nat} {a : Addr} {clip : Bool} {r : Ver} (h : G.at loc ver = some r) (h1 : r.lo ≤ off) (h2 : off ≤ r.top) (h6 : clip = false → r.top ≤ off) (hz : 0 < sz) : V G (.sl loc off 0 sz ver clip) (.slice (some a) 0 0)
  | nilm : V G .nilm (.map none)
  | map {loc : Nat} {r : Ver} (h : G.at loc 0 = some r) : V G (.map loc) (.map (some r.b))
  | nilf : V G .nilf .nilFunc
  | fn (f : FuncId) {first cap : List AV} {vf vc : List Value} (hf : VL G first vf) (hc : VL G cap vc) : V G (.fn f first cap) (.func (.func f) vf.toArray vc.toArray)
  | nili : V G .nili .nilIface
  | ifc (t : TypeId) {v : AV} {u : Value} (h : V G v u) : V G (.ifc t v) (.iface t u)
  | opq (t : TypeId) (v : Value) : V G .opq (.iface t v)
  | agg {l : List AV} {us : List Value} (h : VL G l us) : V G (.agg l) (.agg us.toArray)
  | tup {l : List AV} {us : List Value} (h : VL G l us) : V G (.tup l) (.tuple us.toArray)
  | any (n : Int) : V G .any (.int .u8 n)
  | yld {loc : Nat} {r : Ver} (h : G.at loc 0 = some r) : V G (.yld loc) (.func (.yield r.b) #[] #[])
  | iv {lo hi m : Int} (h1 : lo ≤ m) (h2 : m ≤ hi) : V G (.iv lo hi) (.int .i64 m)
inductive VL (G : Gh) : List AV → List Value → Prop
  | nil : VL G [] []
  | cons {x : AV} {u : Value} {l : List AV} {us : List Value} (h : V G x u) (t : VL G l us) : VL G (x :: l) (u :: us)
end

mutual
theorem V.le {G G' : Gh} (hG : G.le G') : ∀ {x : AV} {u : Value}, V G x u → V G' x u
  | _, _, .bool b => .bool b
  | _, _, .int k n => .int k n
  | _, _, .str l => .str l
  | _, _, .nilp => .nilp
  | _, _, .ptr h h1 h2 => .ptr (hG _ _ _ h) h1 h2
  | _, _, .nils => .nils
  | _, _, .sl h h1 h2 h3 h4 h5 h6 h7 hz => .sl (hG _ _ _ h) h1 h2 h3 h4 h5 h6 h7 hz
  | _, _, .sl0 h h1 h2 h6 hz => .sl0 (hG _ _ _ h) h1 h2 h6 hz
  | _, _, .nilm => .nilm
  | _, _, .map h => .map (hG _ _ _ h)
  | _, _, .nilf => .nilf
  | _, _, .fn f hf hc => .fn f (VL.le hG hf) (VL.le hG hc)
  | _, _, .nili => .nili
  | _, _, .ifc t h => .ifc t (V.le hG h)
  | _, _, .opq t v => .opq t v
  | _, _, .agg h => .agg (VL.le hG h)
  | _, _, .tup h => .tup (VL.le hG h)
  | _, _, .any n => .any n
  | _, _, .iv h1 h2 => .iv h1 h2
  | _, _, .yld h => .yld (hG _ _ _ h)
theorem VL.le {G G' : Gh} (hG : G.le G') : ∀ {l : List AV} {us : List Value}, VL G l us → VL G' l us
  | _, _, .nil => .nil
  | _, _, .cons h t => .cons (V.le hG h) (VL.le hG t)
end

section
variable {G G' : Gh} {l l' : List AV} {us us' : List Value}
theorem VL.length (h : VL G l us) : us.length = l.length := by
  induction l generalizing us with
  | nil => cases h; rfl
  | cons x l ih => cases h with | cons _ t => simp [ih t]
theorem VL.get (h : VL G l us) {i : Nat} {x : AV} (hx : l[i]? = some x) : ∃ u, us[i]? = some u ∧ V G x u := by
  induction l generalizing us i with
  | nil => simp at hx
  | cons y l ih =>
    cases h with
    | cons hy t =>
      cases i with
      | zero => simp at hx; subst hx; exact ⟨_, rfl, hy⟩
      | succ i => simpa using ih t (by simpa using hx)
theorem VL.of_get (hl : us.length = l.length) (h : ∀ (i : Nat) (x : AV) (u : Value), l[i]? = some x → us[i]? = some u → V G x u) : VL G l us := by
  induction l generalizing us with
  | nil => simp at hl; subst hl; exact .nil
  | cons x l ih =>
    cases us with
    | nil => simp at hl
    | cons u us => exact .cons (h 0 x u rfl rfl) (ih (by simpa using hl) fun i x u hx hu => h (i + 1) x u (by simpa using hx) (by simpa using hu))
theorem VL.append (h : VL G l us) (h' : VL G l' us') : VL G (l ++ l') (us ++ us') := by
  induction l generalizing us with
  | nil => cases h; exact h'
  | cons x l ih => cases h with | cons hx t => exact .cons hx (ih t)
theorem VL.take (h : VL G l us) (n : Nat) : VL G (l.take n) (us.take n) := by
  induction l generalizing us n with
  | nil => cases h; simp; exact .nil
  | cons x l ih => cases h with | cons hx t => cases n with
    | zero => simp; exact .nil
    | succ n => simp; exact .cons hx (ih t n)
theorem VL.drop (h : VL G l us) (n : Nat) : VL G (l.drop n) (us.drop n) := by
  induction l generalizing us n with
  | nil => cases h; simp; exact .nil
  | cons x l ih => cases h with | cons hx t => cases n with
    | zero => simp; exact .cons hx t
    | succ n => simp; exact ih t n
end

/-- A value of one cell. -/
def AV.one : AV → Bool
  | .agg _ | .tup _ => false
  | _ => true
def AV.cells : AV → List AV
  | .agg l => l
  | v => [v]
theorem V.one {G : Gh} {x : AV} {u : Value} (h : V G x u) (ho : x.one = true) : u.oneCell' = true := by
  cases h <;> first | rfl | cases ho
theorem V.cells {G : Gh} {x : AV} {u : Value} (h : V G x u) : VL G x.cells u.cells.toList := by
  cases h with
  | agg h => simpa [AV.cells, Value.cells] using h
  | _ => refine .cons ?_ .nil; constructor <;> assumption

inductive Blk where
  | row (cells : List AV) (ver minv frz : Nat) (ro : Bool) (tt : Option TypeId)
  | map (es : List (AV × AV))
  | iter (s : List UInt8) (pos : Nat)
  | lay (cells : List AV)
  | loop (env : Arr AV) (ps : Array Tmp) (asg body : Code) (s : LoopState) (p : Option Code)
  | dfr
  | miter (m : Option Nat)
  | gone
  | dead
instance : Inhabited Blk := ⟨.dead⟩
def Blk.own : Blk → Bool
  | .row _ _ _ _ ro _ => !ro
  | .dead => false
  | .lay _ => false
  | _ => true
abbrev Heap := Arr Blk

structure RowR (G : Gh) (w : World) (cells : List AV) (ver minv frz : Nat) (tt : Option TypeId) (vs : List Ver) : Prop where
  len : vs.length = ver + 1
  cell : ∀ (v : Nat) (r : Ver), vs[v]? = some r → minv ≤ v → ∃ c T fr, w.heap[r.b]? = some (.cells c T fr) ∧ (∀ t, tt = some t → T = t) ∧ c.size = r.size ∧ r.top ≤ r.lo + r.size ∧
    ∀ p, r.lo ≤ p → p < r.top → ∃ x u, cells[p]? = some x ∧ c[p - r.lo]? = some u ∧ V G x u
  tip : ∀ (r : Ver), vs[ver]? = some r → r.top = cells.length ∧ ∃ c T fr, w.heap[r.b]? = some (.cells c T fr) ∧ fr.1 ≤ fr.2 ∧ (∀ j, frz ≤ j + r.lo → j < c.size → ¬ (fr.1 ≤ j ∧ j < fr.2)) ∧ (tt.isSome = true → fr.1 = fr.2 ∨ fr.2 + r.lo ≤ frz)
  tops : ∀ (v : Nat) (r : Ver), vs[v]? = some r → r.lo ≤ r.top ∧ r.top ≤ cells.length
  same : ∀ (v1 v2 : Nat) (r1 r2 : Ver), vs[v1]? = some r1 → vs[v2]? = some r2 → r1.b = r2.b → r1.lo = r2.lo
  minv_le : minv ≤ ver
  sh0 : ∀ (v : Nat) (r : Ver), vs[v]? = some r → r.sh = 0
  frz_le : frz ≤ cells.length

def BlkR (G : Gh) (w : World) : Blk → List Ver → Prop
  | .row cells ver minv frz _ tt, vs => vs = [] ∨ RowR G w cells ver minv frz tt vs
  | .map es, vs => vs = [] ∨ ∃ r, vs = [r] ∧ ∃ es' clock, w.heap[r.b]? = some (.map es' clock) ∧ VL G (es.map (·.1)) (es'.toList.map (·.key)) ∧ VL G (es.map (·.2)) (es'.toList.map (·.val))
  | .iter s pos, vs => vs = [] ∨ ∃ r, vs = [r] ∧ w.heap[r.b]? = some (.stringIter ⟨s.toArray⟩ pos)
  | .lay cells, vs => vs = [] ∨ ∃ r, vs = [r] ∧ r.lo = 0 ∧ r.top = cells.length ∧ ∃ c T fr, w.heap[r.b]? = some (.cells c T fr) ∧ c.size = r.size ∧ r.top + r.sh ≤ r.size ∧ ∀ p, p < r.top → ∃ x u, cells[p]? = some x ∧ c[p + r.sh]? = some u ∧ V G x u
  | .loop env ps asg body s p, vs => vs = [] ∨ ∃ r, vs = [r] ∧ ∃ L : Loop, w.heap[r.b]? = some (.loop L) ∧ L.state = s ∧ L.pending = p ∧ L.params = ps ∧ L.assign = asg ∧ L.body = body ∧ VL G env.toL L.tmps.toList
  | .dfr, vs => vs = [] ∨ ∃ r, vs = [r] ∧ w.heap[r.b]? = some (.deferred (some []))
  | .miter m, vs => vs = [] ∨ ∃ r, vs = [r] ∧ r.sh = 0 ∧ ∃ a s c b, w.heap[r.b]? = some (.mapIter a s c b) ∧ match m with | none => a = none | some l => ∃ rm, G.at l 0 = some rm ∧ a = some rm.b
  | .gone, _ => True
  | .dead, _ => True

structure HR (G : Gh) (B : Nat) (h : Heap) (w : World) : Prop where
  len : G.length = h.length
  blk : ∀ (loc : Nat) (b : Blk) (vs : List Ver), h[loc]? = some b → G[loc]? = some vs → BlkR G w b vs
  lt : ∀ loc v r, G.at loc v = some r → r.b < w.heap.size
  own : ∀ (loc v : Nat) (r : Ver) (b : Blk), G.at loc v = some r → h[loc]? = some b → (b.own = true ↔ B ≤ r.b)
  apart : ∀ l1 l2 v1 v2 r1 r2, G.at l1 v1 = some r1 → G.at l2 v2 = some r2 → B ≤ r1.b → r1.b = r2.b → l1 = l2
  base : B ≤ w.heap.size

/-- What stays: the blocks below B, and those that M does not know. -/
structure Fr (G : Gh) (B : Nat) (w w' : World) : Prop where
  os : w'.os = w.os
  tape : w'.tape = w.tape
  output : w'.output = w.output
  size : w.heap.size ≤ w'.heap.size
  low : ∀ b, b < w.heap.size → (∀ loc v r, G.at loc v = some r → B ≤ r.b → r.b ≠ b) → w'.heap[b]? = w.heap[b]?

theorem Fr.refl (G : Gh) (B : Nat) (w : World) : Fr G B w w := ⟨rfl, rfl, rfl, Nat.le_refl _, fun _ _ _ => rfl⟩
/-- G' knows of the old blocks no more than G did. -/
def Gh.new (G G' : Gh) (n : Nat) : Prop := ∀ loc v r', G'.at loc v = some r' → n ≤ r'.b ∨ ∃ loc' v' r, G.at loc' v' = some r ∧ r.b = r'.b
theorem Fr.trans {G G' : Gh} {B : Nat} {a b c : World} (h : Fr G B a b) (k : Fr G' B b c) (hn : G.new G' a.heap.size) : Fr G B a c :=
  ⟨k.os.trans h.os, k.tape.trans h.tape, k.output.trans h.output, Nat.le_trans h.size k.size, fun i hi hx =>
    (k.low i (Nat.lt_of_lt_of_le hi h.size) fun loc v r hr hB e => by
      rcases hn loc v r hr with h1 | ⟨loc', v', r', h1, h2⟩
      · omega
      · exact hx _ _ _ h1 (h2 ▸ hB) (h2.trans e)).trans (h.low i hi hx)⟩

/-- One step of M and of the model. -/
structure Step (G G' : Gh) (B : Nat) (h' : Heap) (w w' : World) : Prop where
  le : G.le G'
  new : G.new G' w.heap.size
  hr : HR G' B h' w'
  fr : Fr G B w w'
  hole : ∀ loc : Nat, G[loc]? = some [] → G'[loc]? = some []

theorem Gh.new_refl (G : Gh) (n : Nat) : G.new G n := fun loc v r h => .inr ⟨loc, v, r, h, rfl⟩
theorem Step.refl {G : Gh} {B : Nat} {h : Heap} {w : World} (hr : HR G B h w) : Step G G B h w w := ⟨Gh.le_refl _, Gh.new_refl _ _, hr, .refl _ _ _, fun _ h => h⟩
theorem Step.trans {G G' G'' : Gh} {B : Nat} {h' h'' : Heap} {w w' w'' : World} (s : Step G G' B h' w w') (t : Step G' G'' B h'' w' w'') : Step G G'' B h'' w w'' :=
  ⟨Gh.le_trans s.le t.le, fun loc v r hr => by
    rcases t.new loc v r hr with h1 | ⟨l', v', r', h1, h2⟩
    · exact .inl (Nat.le_trans s.fr.size h1)
    · rw [← h2]; exact s.new l' v' r' h1, t.hr, s.fr.trans t.fr s.new, fun loc h => t.hole loc (s.hole loc h)⟩

theorem BlkR.mono {G G' : Gh} {w w' : World} {b : Blk} {vs : List Ver} (h : BlkR G w b vs) (hG : G.le G') (hb : ∀ (v : Nat) (r : Ver), vs[v]? = some r → w'.heap[r.b]? = w.heap[r.b]?) : BlkR G' w' b vs := by
  cases b with
  | row cells ver minv frz ro tt =>
    rcases h with h | h
    · exact .inl h
    · refine .inr ⟨h.len, fun v r hv hm => ?_, fun r hv => ?_, h.tops, h.same, h.minv_le, h.sh0, h.frz_le⟩
      · obtain ⟨c, T, fr, h1, ht, h2, h3, h4⟩ := h.cell v r hv hm
        refine ⟨c, T, fr, by rw [hb v r hv]; exact h1, ht, h2, h3, fun p hp hp' => ?_⟩
        obtain ⟨x, u, h5, h6, h7⟩ := h4 p hp hp'
        exact ⟨x, u, h5, h6, h7.le hG⟩
      · obtain ⟨h1, c, T, fr, h2, h3⟩ := h.tip r hv
        exact ⟨h1, c, T, fr, by rw [hb _ r hv]; exact h2, h3⟩
  | map es =>
    rcases h with h | ⟨r, rfl, es', clock, h1, h2, h3⟩
    · exact .inl h
    · exact .inr ⟨r, rfl, es', clock, by rw [hb 0 r rfl]; exact h1, h2.le hG, h3.le hG⟩
  | iter s pos =>
    rcases h with h | ⟨r, rfl, h1⟩
    · exact .inl h
    · exact .inr ⟨r, rfl, by rw [hb 0 r rfl]; exact h1⟩
  | lay cells =>
    rcases h with h | ⟨r, rfl, h1, h2, c, T, fr, h3, h4, h5, h6⟩
    · exact .inl h
    · refine .inr ⟨r, rfl, h1, h2, c, T, fr, by rw [hb 0 r rfl]; exact h3, h4, h5, fun p hp' => ?_⟩
      obtain ⟨x, u, q1, q2, q3⟩ := h6 p hp'
      exact ⟨x, u, q1, q2, q3.le hG⟩
  | loop env ps asg body s p =>
    rcases h with h | ⟨r, rfl, L, h1, h2, h3, h4, h5, h6, h7⟩
    · exact .inl h
    · exact .inr ⟨r, rfl, L, by rw [hb 0 r rfl]; exact h1, h2, h3, h4, h5, h6, h7.le hG⟩
  | dfr =>
    rcases h with h | ⟨r, rfl, h1⟩
    · exact .inl h
    · exact .inr ⟨r, rfl, by rw [hb 0 r rfl]; exact h1⟩
  | miter m =>
    rcases h with h | ⟨r, rfl, h0, a, s, c, b, h1, h2⟩
    · exact .inl h
    · refine .inr ⟨r, rfl, h0, a, s, c, b, by rw [hb 0 r rfl]; exact h1, ?_⟩
      cases m with
      | none => exact h2
      | some l => obtain ⟨rm, h3, h4⟩ := h2; exact ⟨rm, hG _ _ _ h3, h4⟩
  | gone => trivial
  | dead => trivial

theorem HR.get {G : Gh} {B : Nat} {h : Heap} {w : World} (hr : HR G B h w) {loc v : Nat} {r : Ver} (ha : G.at loc v = some r) : ∃ b vs, h[loc]? = some b ∧ G[loc]? = some vs ∧ vs[v]? = some r ∧ BlkR G w b vs := by
  unfold Gh.at at ha
  cases hg : G[loc]? with
  | none => rw [hg] at ha; cases ha
  | some vs =>
    rw [hg] at ha
    have hl : loc < h.length := by rw [← hr.len]; exact (List.getElem?_eq_some_iff.1 hg).1
    obtain ⟨b, hb⟩ := Arr.some_of hl
    exact ⟨b, vs, hb, rfl, ha, hr.blk _ _ _ hb hg⟩
theorem Gh.at_of {G : Gh} {loc v : Nat} {vs : List Ver} {r : Ver} (h : G[loc]? = some vs) (hv : vs[v]? = some r) : G.at loc v = some r := by unfold Gh.at; rw [h]; exact hv

/-- The world grows, and nothing that was there turns. -/
theorem HR.grow {G : Gh} {B : Nat} {h : Heap} {w w' : World} (hr : HR G B h w) (hs : w.heap.size ≤ w'.heap.size) (hb : ∀ b, b < w.heap.size → w'.heap[b]? = w.heap[b]?) : HR G B h w' :=
  ⟨hr.len, fun loc b vs h1 h2 => (hr.blk loc b vs h1 h2).mono (Gh.le_refl _) fun v r hv => hb _ (hr.lt loc v r (Gh.at_of h2 hv)), fun loc v r h => Nat.lt_of_lt_of_le (hr.lt loc v r h) hs, hr.own, hr.apart, Nat.le_trans hr.base hs⟩
theorem Step.grow {G : Gh} {B : Nat} {h : Heap} {w w' : World} (hr : HR G B h w) (hs : w.heap.size ≤ w'.heap.size) (hb : ∀ b, b < w.heap.size → w'.heap[b]? = w.heap[b]?) (ho : w'.os = w.os) (ht : w'.tape = w.tape) (hu : w'.output = w.output) :
    Step G G B h w w' := ⟨Gh.le_refl _, Gh.new_refl _ _, hr.grow hs hb, ⟨ho, ht, hu, hs, fun b h _ => hb b h⟩, fun _ h => h⟩

theorem at_push {G : Gh} {vs : List Ver} {loc v : Nat} {r : Ver} (h : Gh.at (G ++ [vs]) loc v = some r) : G.at loc v = some r ∨ (loc = G.length ∧ vs[v]? = some r) := by
  unfold Gh.at at *
  rw [List.getElem?_append] at h
  split at h
  · exact .inl h
  · rename_i hl
    cases he : loc - G.length with
    | zero => rw [he] at h; exact .inr ⟨by omega, h⟩
    | succ n => rw [he] at h; simp at h
theorem Gh.le_push (G : Gh) (vs : List Ver) : G.le (G ++ [vs]) := by
  intro loc v r h
  unfold Gh.at at *
  cases hg : G[loc]? with
  | none => rw [hg] at h; cases h
  | some vs' => rw [hg] at h; rw [List.getElem?_append_left (List.getElem?_eq_some_iff.1 hg).1, hg]; exact h

/-- A new block. -/
theorem Step.push {G : Gh} {B : Nat} {h : Heap} {w w' : World} {blk : Blk} {vs : List Ver} (hr : HR G B h w) (ho : blk.own = true) (hs : w.heap.size ≤ w'.heap.size) (hb : ∀ b, b < w.heap.size → w'.heap[b]? = w.heap[b]?)
    (h1 : w'.os = w.os) (h2 : w'.tape = w.tape) (h3 : w'.output = w.output) (hv : ∀ (v : Nat) (r : Ver), vs[v]? = some r → w.heap.size ≤ r.b ∧ r.b < w'.heap.size) (hB : BlkR (G ++ [vs]) w' blk vs) :
    Step G (G ++ [vs]) B (h ++ [blk]) w w' := by
  refine ⟨Gh.le_push _ _, fun loc v r hat => ?_, ⟨by rw [Arr.length_app, List.length_append, hr.len]; rfl, ?_, ?_, ?_, ?_, Nat.le_trans hr.base hs⟩, ⟨h1, h2, h3, hs, fun b h _ => hb b h⟩, fun loc hl => by rw [List.getElem?_append_left (List.getElem?_eq_some_iff.1 hl).1]; exact hl⟩
  · rcases at_push hat with hat | ⟨_, hat⟩
    · exact .inr ⟨_, _, _, hat, rfl⟩
    · exact .inl (hv _ _ hat).1
  · intro loc b vs' hl hg
    by_cases hlt : loc < h.length
    · rw [Arr.get_app_left hlt] at hl
      rw [List.getElem?_append_left (by rw [hr.len]; exact hlt)] at hg
      exact (hr.blk loc b vs' hl hg).mono (Gh.le_push _ _) fun v r hv => hb _ (hr.lt loc v r (Gh.at_of hg hv))
    · have hle : loc = h.length := by
        have := Arr.lt hl; rw [Arr.length_app] at this; simp at this; omega
      subst hle
      rw [Arr.get_app_right (by omega)] at hl
      rw [List.getElem?_append_right (by rw [hr.len]; omega), hr.len] at hg
      simp at hl hg
      subst hl; subst hg; exact hB
  · intro loc v r hat
    rcases at_push hat with hat | ⟨_, hat⟩
    · exact Nat.lt_of_lt_of_le (hr.lt _ _ _ hat) hs
    · exact (hv _ _ hat).2
  · intro loc v r b hat hl
    rcases at_push hat with hat | ⟨hl', hat'⟩
    · obtain ⟨b', _, hb', _⟩ := hr.get hat
      have hlt := Arr.lt hb'
      rw [Arr.get_app_left hlt] at hl
      exact hr.own _ _ _ _ hat hl
    · rw [hl', hr.len, Arr.get_app_right (by omega)] at hl
      simp at hl; subst hl
      exact ⟨fun _ => Nat.le_trans hr.base (hv _ _ hat').1, fun _ => ho⟩
  · intro l1 l2 v1 v2 r1 r2 ha1 ha2 hB1 he
    rcases at_push ha1 with h1 | ⟨e1, h1⟩ <;> rcases at_push ha2 with h2 | ⟨e2, h2⟩
    · exact hr.apart _ _ _ _ _ _ h1 h2 hB1 he
    · have := hr.lt _ _ _ h1; have := (hv _ _ h2).1; omega
    · have := hr.lt _ _ _ h2; have := (hv _ _ h1).1; omega
    · exact e1.trans e2.symm

theorem at_set {G : Gh} {vs : List Ver} {l loc v : Nat} {r : Ver} (h : Gh.at (G.set l vs) loc v = some r) : (loc ≠ l ∧ G.at loc v = some r) ∨ (loc = l ∧ vs[v]? = some r) := by
  unfold Gh.at at *
  rw [List.getElem?_set] at h
  split at h
  · rename_i e
    split at h
    · exact .inr ⟨e.symm, h⟩
    · cases h
  · rename_i e; exact .inl ⟨fun q => e q.symm, h⟩

/-- A block of M's own is turned. -/
theorem Step.upd {G : Gh} {B : Nat} {h : Heap} {w w' : World} {loc : Nat} {blk blk' : Blk} {vs vs' : List Ver} {b : Nat} (hr : HR G B h w) (hl : h[loc]? = some blk) (hg : G[loc]? = some vs) (ho : blk.own = true) (ho' : blk'.own = true)
    (hbk : ∃ (v : Nat) (r : Ver), vs[v]? = some r ∧ r.b = b) (hs : w.heap.size ≤ w'.heap.size) (hb : ∀ k, k < w.heap.size → k ≠ b → w'.heap[k]? = w.heap[k]?) (h1 : w'.os = w.os) (h2 : w'.tape = w.tape) (h3 : w'.output = w.output)
    (hle : ∀ (v : Nat) (r : Ver), vs[v]? = some r → vs'[v]? = some r)
    (hv : ∀ (v : Nat) (r : Ver), vs'[v]? = some r → (w.heap.size ≤ r.b ∧ r.b < w'.heap.size) ∨ ∃ (v0 : Nat) (r0 : Ver), vs[v0]? = some r0 ∧ r0.b = r.b)
    (hB : G.le (G.set loc vs') → BlkR (G.set loc vs') w' blk' vs') : Step G (G.set loc vs') B (h.set loc blk') w w' := by
  obtain ⟨vb, rb, hvb, hrb⟩ := hbk
  have hBb : B ≤ b := by rw [← hrb]; exact (hr.own _ _ _ _ (Gh.at_of hg hvb) hl).1 ho
  have hgl : loc < G.length := (List.getElem?_eq_some_iff.1 hg).1
  have hhl : loc < h.length := Arr.lt hl
  have hlee : G.le (G.set loc vs') := by
    intro l v r ha
    by_cases e : l = loc
    · subst e
      unfold Gh.at at *
      rw [hg] at ha
      rw [List.getElem?_set_self hgl]
      exact hle _ _ ha
    · unfold Gh.at at *
      rw [List.getElem?_set_ne (fun q => e q.symm)]; exact ha
  refine ⟨hlee, fun l v r hat => ?_, ⟨by rw [Arr.length_set, List.length_set]; exact hr.len, ?_, ?_, ?_, ?_, Nat.le_trans hr.base hs⟩, ⟨h1, h2, h3, hs, fun k hk hx => hb k hk fun e => hx _ _ _ (Gh.at_of hg hvb) (hrb ▸ hBb) (hrb.trans e.symm)⟩, fun l hl0 => by
    by_cases e : l = loc
    · subst e; rw [hg] at hl0; cases hl0; simp at hvb
    · rw [List.getElem?_set_ne (fun q => e q.symm)]; exact hl0⟩
  · rcases at_set hat with ⟨_, hat⟩ | ⟨rfl, hq⟩
    · exact .inr ⟨_, _, _, hat, rfl⟩
    · rcases hv _ _ hq with h | ⟨v0, r0, h0, he⟩
      · exact .inl h.1
      · exact .inr ⟨_, _, _, Gh.at_of hg h0, he⟩
  · intro l b' vs'' hl' hg'
    by_cases e : l = loc
    · subst e
      rw [Arr.get_set_self hhl] at hl'
      rw [List.getElem?_set_self hgl] at hg'
      cases hl'; cases hg'
      exact hB hlee
    · rw [Arr.get_set_ne (fun q => e q.symm)] at hl'
      rw [List.getElem?_set_ne (fun q => e q.symm)] at hg'
      refine (hr.blk _ _ _ hl' hg').mono hlee fun v r hvr => hb _ (hr.lt _ _ _ (Gh.at_of hg' hvr)) fun e' => ?_
      exact e (hr.apart _ _ _ _ _ _ (Gh.at_of hg' hvr) (Gh.at_of hg hvb) (by omega) (by omega))
  · intro l v r hat
    rcases at_set hat with ⟨_, hat⟩ | ⟨rfl, hq⟩
    · exact Nat.lt_of_lt_of_le (hr.lt _ _ _ hat) hs
    · rcases hv _ _ hq with h | ⟨v0, r0, h0, he⟩
      · exact h.2
      · rw [← he]; exact Nat.lt_of_lt_of_le (hr.lt _ _ _ (Gh.at_of hg h0)) hs
  · intro l v r b' hat hl'
    rcases at_set hat with ⟨e, hat⟩ | ⟨rfl, hq⟩
    · rw [Arr.get_set_ne (fun q => e q.symm)] at hl'
      exact hr.own _ _ _ _ hat hl'
    · rw [Arr.get_set_self hhl] at hl'
      cases hl'
      rw [ho']
      refine ⟨fun _ => ?_, fun _ => rfl⟩
      rcases hv _ _ hq with h | ⟨v0, r0, h0, he⟩
      · exact Nat.le_trans hr.base h.1
      · rw [← he]; exact (hr.own _ _ _ _ (Gh.at_of hg h0) hl).1 ho
  · intro l1 l2 v1 v2 r1 r2 ha1 ha2 hB1 he
    rcases at_set ha1 with ⟨e1, p1⟩ | ⟨e1, p1⟩ <;> rcases at_set ha2 with ⟨e2, p2⟩ | ⟨e2, p2⟩
    · exact hr.apart _ _ _ _ _ _ p1 p2 hB1 he
    · subst e2
      rcases hv _ _ p2 with h | ⟨v0, r0, h0, he0⟩
      · have := hr.lt _ _ _ p1; omega
      · exact hr.apart _ _ _ _ _ _ p1 (Gh.at_of hg h0) hB1 (he.trans he0.symm)
    · subst e1
      rcases hv _ _ p1 with h | ⟨v0, r0, h0, he0⟩
      · have := hr.lt _ _ _ p2; omega
      · exact hr.apart _ _ _ _ _ _ (Gh.at_of hg h0) p2 (by omega) (he0.trans he)
    · exact e1.trans e2.symm

/-- A block that was set aside is made. -/
theorem Step.fill {G0 G : Gh} {B : Nat} {h : Heap} {w0 w w' : World} {loc : Nat} {blk : Blk} {r : Ver} (hS : Step G0 G B h w0 w) (hl : h[loc]? = some blk) (hg : G[loc]? = some []) (h0 : G0.length ≤ loc) (ho : blk.own = true)
    (hr1 : w.heap.size ≤ r.b) (hr2 : r.b < w'.heap.size) (hs : w.heap.size ≤ w'.heap.size) (hb : ∀ k, k < w.heap.size → w'.heap[k]? = w.heap[k]?) (h1 : w'.os = w.os) (h2 : w'.tape = w.tape) (h3 : w'.output = w.output)
    (hB : BlkR (G.set loc [r]) w' blk [r]) : Step G0 (G.set loc [r]) B h w0 w' := by
  have hr := hS.hr
  have hgl : loc < G.length := (List.getElem?_eq_some_iff.1 hg).1
  have hone : ∀ (v : Nat) (r' : Ver), [r][v]? = some r' → r' = r := by
    intro v r' hv
    cases v with
    | zero => simp at hv; exact hv.symm
    | succ v => simp at hv
  have hlee : G.le (G.set loc [r]) := by
    intro l v r' ha
    by_cases e : l = loc
    · subst e
      unfold Gh.at at ha
      rw [hg] at ha
      simp at ha
    · unfold Gh.at at *
      rw [List.getElem?_set_ne (fun q => e q.symm)]; exact ha
  refine ⟨Gh.le_trans hS.le hlee, fun l v r' hat => ?_, ⟨by simp [hr.len], ?_, ?_, ?_, ?_, Nat.le_trans hr.base hs⟩, ⟨h1.trans hS.fr.os, h2.trans hS.fr.tape, h3.trans hS.fr.output, Nat.le_trans hS.fr.size hs, fun k hk hx => (hb k (Nat.lt_of_lt_of_le hk hS.fr.size)).trans (hS.fr.low k hk hx)⟩, fun l hl0 => ?_⟩
  · rcases at_set hat with ⟨_, hat⟩ | ⟨rfl, hq⟩
    · exact hS.new _ _ _ hat
    · rw [hone _ _ hq]; exact .inl (Nat.le_trans hS.fr.size hr1)
  · intro l b' vs'' hl' hg'
    by_cases e : l = loc
    · subst e
      rw [hl] at hl'
      rw [List.getElem?_set_self hgl] at hg'
      cases hl'; cases hg'
      exact hB
    · rw [List.getElem?_set_ne (fun q => e q.symm)] at hg'
      exact (hr.blk _ _ _ hl' hg').mono hlee fun v r hvr => hb _ (hr.lt _ _ _ (Gh.at_of hg' hvr))
  · intro l v r' hat
    rcases at_set hat with ⟨_, hat⟩ | ⟨rfl, hq⟩
    · exact Nat.lt_of_lt_of_le (hr.lt _ _ _ hat) hs
    · rw [hone _ _ hq]; exact hr2
  · intro l v r' b' hat hl'
    rcases at_set hat with ⟨e, hat⟩ | ⟨rfl, hq⟩
    · exact hr.own _ _ _ _ hat hl'
    · rw [hl] at hl'
      cases hl'
      rw [hone _ _ hq]
      exact ⟨fun _ => Nat.le_trans hr.base hr1, fun _ => ho⟩
  · intro l1 l2 v1 v2 r1 r2 ha1 ha2 hB1 he
    rcases at_set ha1 with ⟨e1, p1⟩ | ⟨e1, p1⟩ <;> rcases at_set ha2 with ⟨e2, p2⟩ | ⟨e2, p2⟩
    · exact hr.apart _ _ _ _ _ _ p1 p2 hB1 he
    · have := hr.lt _ _ _ p1; rw [hone _ _ p2] at he; omega
    · have := hr.lt _ _ _ p2; rw [hone _ _ p1] at he; omega
    · exact e1.trans e2.symm
  · have : l < G0.length := (List.getElem?_eq_some_iff.1 hl0).1
    rw [List.getElem?_set_ne (by omega)]
    exact hS.hole _ hl0
end Go.Mx
