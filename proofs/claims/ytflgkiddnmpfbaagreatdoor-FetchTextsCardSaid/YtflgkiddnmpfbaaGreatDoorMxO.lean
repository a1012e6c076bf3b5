/- What stands outside the text: externs as hooks of M. -/
import Derived.Test.YtflgkiddnmpfbaaGreatDoorMxQ
import Derived.Lib.MakeNoZero
import Derived.Laws.Externs
import Derived.Laws.LoneSync
import Derived.Lib.Bytealg
set_option linter.unusedVariables false
set_option linter.unusedSimpArgs false
namespace Go.Mx
open Go Go.Gx

inductive XK where
  | same | makeNoZero (t e : TypeId) | indexByte | aload (k : IntKind) | astore | acas (k : IntKind) | aadd (k : IntKind) | index (g : Nat) | count | mark0 | marked

def mbytes (h : Heap) : AV → Option (List UInt8)
  | .str l => some l
  | .nils => some []
  | .sl loc off len 1 ver _ => match rd h loc off ver (off + len) len with
    | some cs => toBytes cs
    | none => none
  | _ => none
def firstOf (c : UInt8) : List UInt8 → Nat → Int
  | [], _ => -1
  | x :: l, i => if x == c then i else firstOf c l (i + 1)

/-- Where a text comes up first. -/
def idxOf (a b : List UInt8) : Int := match (List.range (a.length + 1 - b.length)).find? fun i => (a.drop i).take b.length == b with
  | some i => i
  | none => -1
def mx (k : XK) (args : List AV) (h : Heap) : Option CR :=
  match k, args with
  | .same, [x] => some (.ret x h)
  | .makeNoZero _ e, [.int .i64 n] => if 0 ≤ n ∧ n < 549755813888 then some (.ret (.sl h.length 0 n.toNat 1 0 false) (mkRow h (List.replicate n.toNat .any) e)) else none
  | .indexByte, [b, .int .u8 c] => match mbytes h b with
    | some l => some (.ret (.int .i64 (firstOf c.toNat.toUInt8 l 0)) h)
    | none => none
  | .index g, [a, b] => match mbytes h a, mbytes h b, h[g]? with
    | some la, some lb, some (.lay [.iv lo _]) => if 2 ≤ lb.length ∧ (lb.length : Int) ≤ lo ∧ la.length < 4294967281 then some (.ret (.int .i64 (idxOf la lb)) h) else none
    | _, _, _ => none
  | .aload k, [.ptr loc off ver lim] => match rd h loc off ver lim 1 with
    | some [.int k' n] => if k = k' then some (.ret (.int k' n) h) else none
    | _ => none
  | .astore, [.ptr loc off ver lim, x] => match wr h loc off ver lim [x] with
    | some h' => some (.ret (.tup []) h')
    | none => none
  | .acas k, [.ptr loc off ver lim, .int k1 o, .int k2 y] => match rd h loc off ver lim 1, wr h loc off ver lim [.int k2 y] with
    | some [.int k' n], some h' => if k = k' ∧ k1 = k ∧ k2 = k then if n = o then some (.ret (.bool true) h') else some (.ret (.bool false) h) else none
    | _, _ => none
  | .aadd k, [.ptr loc off ver lim, .int k1 y] => match rd h loc off ver lim 1 with
    | some [.int k' n] => if k = k' then match wr h loc off ver lim [.int k (k.wrap (n + y))] with
        | some h' => some (.ret (.int k (k.wrap (n + y))) h')
        | none => none
      else none
    | _ => none
  | .count, [b, .int .u8 c] => match mbytes h b with
    | some l => some (.ret (.int .i64 (Go.Lib.countByte l c.toNat.toUInt8)) h)
    | none => none
  | .mark0, [] => some (.ret (.tup []) h)
  | .marked, [.ptr _ _ _ _] => some (.ret (.tup []) h)
  | _, _ => none

/-- The entry of an extern. -/
def XK.entry (P : Program) : XK → (Array Value → Sem Value) → Prop
  | .same, e => e = Extern.AbiNoEscape.same
  | .makeNoZero t el, e => (∃ ps, e = Extern.BytealgMakeNoZero.makeNoZero ps #[t]) ∧ P.underlying t = some (.slice el)
  | .indexByte, e => e = Extern.BytealgIndexByte.indexByte
  | .index g, e => e = Extern.BytealgIndex.index ∧ P.globals.findIdx? (·.name == "internal/bytealg.MaxLen") = some g
  | .aload k, e => e = Extern.Atomic.loadT (.int k)
  | .astore, e => e = Extern.Atomic.storeT
  | .acas k, e => e = Extern.Atomic.casT (.int k)
  | .aadd k, e => e = Extern.Atomic.update (Op.intArith .add) k true
  | .count, e => e = Extern.BytealgCount.count
  | .mark0, e => ∃ m, e = fun _ => do mark m; pure Extern.Race.none_
  | .marked, e => ∃ m, e = Extern.Race.marked m
def XFn (P : Program) (f : FuncId) (k : XK) : Prop :=
  ∃ fn e, P.funcs[f]? = some fn ∧ (fn.name == "runtime.NumGoroutine") = false ∧ fn.body.isNone = true ∧ Extern.findNext fn = none ∧ Extern.find fn = some e ∧ k.entry P e

def mext (tab : List (FuncId × XK)) : Hooks := fun f => match tab.lookup f with
  | some k => some (mx k)
  | none => none

section
variable {P : Program} {G : Gh} {B : Nat} {W0 : World} {h h' : Heap} {w : World}

theorem wr_rd {loc off ver lim : Nat} {x : AV} (hr : HR G B h w) {r : Ver} (ha : G.at loc ver = some r) (he : wr h loc off ver lim [x] = some h') : ∃ ys, rd h loc off ver lim 1 = some ys := by
  obtain ⟨b, vs, hb, hg, hv, hR⟩ := hr.get ha
  unfold wr at he
  unfold rd
  rw [hb] at he ⊢
  cases b with
  | row cells v minv frz ro tt =>
    cases ro with
    | true => simp at he
    | false =>
      simp only at he
      split at he
      · rename_i hc
        rcases hR with rfl | hR
        · simp at hv
        have hm := hR.minv_le
        obtain ⟨rfl, h1, h2, h3⟩ := hc
        simp only
        rw [if_pos ⟨hm, h2⟩]
        exact ⟨_, rfl⟩
      · cases he
  | lay cells => simp at he
  | map es => simp at he
  | iter s pos => simp at he
  | dead => simp at he
  | loop env ps asg body st pd => simp at he
  | dfr => simp at he
  | miter m => simp at he
  | gone => simp at he
theorem wr_one {loc off ver lim : Nat} {x : AV} (he : wr h loc off ver lim [x] = some h') : x.one = true := by
  unfold wr at he
  split at he
  · split at he
    · rename_i hc; simpa using hc.2.2.2
    · cases he
  · cases he

theorem wr_atomic {loc off ver lim : Nat} {x : AV} {u : Value} {r : Ver} (m : Mode) (hr : HR G B h w) (he : wr h loc off ver lim [x] = some h') (ha : G.at loc ver = some r) (h1 : r.lo ≤ off) (h2 : lim ≤ r.top) (hx : V G x u) :
    ∃ w', (store ⟨r.b, off + r.sh - r.lo, none⟩ u m).run P w = .ok () w' ∧ Step G G B h' w w' ∧ w.frozen? ⟨r.b, off + r.sh - r.lo, none⟩ = false ∧ w' = w.setCell ⟨r.b, off + r.sh - r.lo, none⟩ u := by
  obtain ⟨ys, hrd⟩ := wr_rd hr ha he
  obtain ⟨us, k1, k2, k3⟩ := rd_sound hr hrd ha h1 h2
  obtain ⟨y, rfl⟩ := List.length_eq_one_iff.1 k2
  have hc := k3 0 y rfl
  rw [Nat.add_zero] at hc
  obtain ⟨w', hrun, hS⟩ := wr_sound (P := P) hr he ha h1 h2 (.cons hx .nil)
  have ho := hx.one (wr_one he)
  have hadd : (⟨r.b, off + r.sh - r.lo, none⟩ : Addr).add 0 = ⟨r.b, off + r.sh - r.lo, none⟩ := by simp [Addr.add]
  have hst : ∀ m, (store ⟨r.b, off + r.sh - r.lo, none⟩ u m).run P w = if w.frozen? ⟨r.b, off + r.sh - r.lo, none⟩ then .halt (.unsupported (.unsafePointer "a write to bytes that a string shares")) w else .ok () (w.setCell ⟨r.b, off + r.sh - r.lo, none⟩ u) := fun m => by
    rw [run_store P w _ _ m ho, hc]
  simp only [storeCells, hadd, Sem.run_bind] at hrun
  rw [hst] at hrun
  cases hz : w.frozen? ⟨r.b, off + r.sh - r.lo, none⟩ with
  | true => rw [hz] at hrun; cases hrun
  | false =>
    rw [hz] at hrun
    refine ⟨w', ?_, hS, rfl, ?_⟩
    · rw [hst, hz]
      exact hrun
    · cases hrun; rfl

theorem run_loadBytes2 : ∀ (l : List UInt8) (a : Addr) (acc : ByteArray), (∀ j x, l[j]? = some x → w.cell? (a.add j) = some (.int .u8 x.toNat)) →
    (Extern.Bytes.loadBytes a l.length acc).run P w = .ok ⟨acc.data ++ l.toArray⟩ w
  | [], a, acc, _ => by simp [Extern.Bytes.loadBytes]
  | x :: l, a, acc, h => by
    have h0 : w.cell? a = some (.int .u8 x.toNat) := by
      have := h 0 x rfl
      simpa [Addr.add] using this
    have ih := run_loadBytes2 l (a.add 1) (acc.push x) (fun j y hy => by
      have := h (j + 1) y (by simpa using hy)
      rwa [show (a.add 1).add j = a.add (j + 1) from by
        unfold Addr.add
        by_cases hj : j = 0
        · subst hj; simp
        · simp [hj]; omega])
    have hx : ((x.toNat : Int).toNat).toUInt8 = x := by simp
    simp only [List.length_cons, Extern.Bytes.loadBytes, Sem.run_bind, run_load, h0, Result.andThen_ok, hx]
    rw [ih]
    simp [ByteArray.push]
theorem mbytes_sound {x : AV} {u : Value} {l : List UInt8} (hr : HR G B h w) (he : mbytes h x = some l) (hx : V G x u) : (Extern.Bytes.bytesOf u).run P w = .ok ⟨l.toArray⟩ w := by
  unfold mbytes at he
  split at he
  · cases he; cases hx; rfl
  · cases he; cases hx; rfl
  · split at he
    · rename_i loc off len ver clip _ cs hrd
      cases hx with
      | @sl _ _ _ _ _ cap _ r g1 g2 g3 g4 g5 g6 g7 g8 g9 =>
        obtain ⟨us, o1, o2, o3⟩ := rd_sound hr hrd g1 g2 (by omega)
        have hub := toBytes_sound he o1
        have hln : l.length = len := by rw [← o2, hub]; simp
        have := run_loadBytes2 (P := P) (w := w) l ⟨r.b, off + r.sh - r.lo, none⟩ .empty (fun j x hj => by
          rw [Addr.add_lit]
          exact o3 j _ (by rw [hub]; simp [hj]))
        rw [hln] at this
        show (Extern.Bytes.loadBytes _ _ _).run P w = _
        rw [this]
        simp
      | @sl0 _ _ _ _ o _ r g1 g2 g3 g6 g9 =>
        obtain ⟨us, o1, o2, o3⟩ := rd_sound hr hrd g1 g2 (by omega)
        have hub := toBytes_sound he o1
        obtain rfl : l = [] := by
          have : us = [] := List.eq_nil_of_length_eq_zero o2
          rw [this] at hub
          cases l with
          | nil => rfl
          | cons => simp at hub
        rfl
    · cases he
  · cases he

theorem find_first (c : UInt8) (L : List UInt8) : ∀ (l : List UInt8) (i : Nat), L.drop i = l → (match (List.range' i l.length).find? fun j => (⟨L.toArray⟩ : ByteArray)[j]! == c with | some j => goInt j | none => goInt (-1)) = Value.int .i64 (firstOf c l i)
  | [], i, h => by simp [firstOf, goInt]
  | x :: l, i, h => by
    have hlt : i < L.length := by
      rcases Nat.lt_or_ge i L.length with h1 | h1
      · exact h1
      · rw [List.drop_eq_nil_of_le h1] at h; cases h
    have hx : L[i] = x := by
      have := List.drop_eq_getElem_cons hlt
      rw [h] at this
      exact (List.cons.inj this).1.symm
    have hl : L.drop (i + 1) = l := by
      have := List.drop_eq_getElem_cons hlt
      rw [h] at this
      exact (List.cons.inj this).2.symm
    have ih := find_first c L l (i + 1) hl
    have hg : (⟨L.toArray⟩ : ByteArray)[i]! = x := by
      rw [getElem!_pos (⟨L.toArray⟩ : ByteArray) i (show i < L.toArray.size by simpa using hlt)]
      exact hx
    simp only [List.length_cons, List.range'_succ, List.find?_cons, hg, firstOf]
    cases hc : x == c with
    | true => simp [goInt]
    | false => simpa using ih

theorem run_indexByte {u : Value} {c : Int} {l : List UInt8} (hb : (Extern.Bytes.bytesOf u).run P w = .ok ⟨l.toArray⟩ w) : (Extern.BytealgIndexByte.indexByte #[u, .int .u8 c]).run P w = .ok (.int .i64 (firstOf c.toNat.toUInt8 l 0)) w := by
  have hf := find_first c.toNat.toUInt8 l l 0 rfl
  rw [← hf]
  change Sem.run P (do
    let b ← Extern.Bytes.bytesOf u
    let c' ← Extern.Bytes.asByte (.int .u8 c)
    match (List.range b.size).find? fun i => b[i]! == c' with
    | some i => pure (goInt i)
    | none => pure (goInt (-1))) w = _
  simp only [Sem.run_bind, hb, Result.andThen_ok, Extern.Bytes.asByte, Sem.run_pure]
  rw [show (⟨l.toArray⟩ : ByteArray).size = l.length from by simp [ByteArray.size], List.range_eq_range']
  split <;> rfl

theorem run_count {u : Value} {c : Int} {l : List UInt8} (hb : (Extern.Bytes.bytesOf u).run P w = .ok ⟨l.toArray⟩ w) : (Extern.BytealgCount.count #[u, .int .u8 c]).run P w = .ok (.int .i64 (Go.Lib.countByte l c.toNat.toUInt8)) w := by
  have h := Go.Lib.run_countString (P := P) ⟨l.toArray⟩ c w
  have e : (Extern.BytealgCount.count #[u, .int .u8 c]).run P w = (Extern.BytealgCount.count #[.string ⟨l.toArray⟩, .int .u8 c]).run P w := by
    change Sem.run P (do
      let b ← Extern.Bytes.bytesOf u
      let c' ← Extern.Bytes.asByte (.int .u8 c)
      pure (goInt (b.foldl (fun n x => if x == c' then n + 1 else n) (0 : Nat)))) w = Sem.run P (do
      let b ← Extern.Bytes.bytesOf (.string ⟨l.toArray⟩)
      let c' ← Extern.Bytes.asByte (.int .u8 c)
      pure (goInt (b.foldl (fun n x => if x == c' then n + 1 else n) (0 : Nat)))) w
    simp only [Sem.run_bind, hb]
    rfl
  rw [e]
  simpa using h
theorem rd1 {loc off ver lim : Nat} {x : AV} {r : Ver} (hr : HR G B h w) (hrd : rd h loc off ver lim 1 = some [x]) (ha : G.at loc ver = some r) (h1 : r.lo ≤ off) (h2 : lim ≤ r.top) : ∃ u, V G x u ∧ w.cell? ⟨r.b, off + r.sh - r.lo, none⟩ = some u := by
  obtain ⟨us, k1, k2, k3⟩ := rd_sound hr hrd ha h1 h2
  obtain ⟨y, rfl⟩ := List.length_eq_one_iff.1 k2
  cases k1 with
  | cons k1 _ => exact ⟨y, k1, by simpa using k3 0 y rfl⟩
theorem run_read {k : IntKind} {n : Int} {a : Addr} (h : w.cell? a = some (.int k n)) : (Extern.Atomic.read (.int k) a).run P w = .ok (.int k n) w := by
  simp [Extern.Atomic.read, h]
theorem run_loadT {k : IntKind} {n : Int} {a : Addr} (h : w.cell? a = some (.int k n)) : (Extern.Atomic.loadT (.int k) #[.pointer (some a)]).run P w = .ok (.int k n) w := by
  show Sem.run P (do Extern.Atomic.read (.int k) (← asAddr (.pointer (some a)))) w = _
  simp [asAddr, run_read h]
theorem run_storeT {a : Addr} {u : Value} {w' : World} (h : (store a u .atomic).run P w = .ok () w') : (Extern.Atomic.storeT #[.pointer (some a), u]).run P w = .ok (.tuple #[]) w' := by
  show Sem.run P (do
    store (← asAddr (.pointer (some a))) u .atomic
    pure Extern.Atomic.none_) w = _
  simp [asAddr, h, Extern.Atomic.none_]
theorem run_add {k : IntKind} {n y : Int} {k1 : IntKind} {a : Addr} {w' : World} (hc : w.cell? a = some (.int k n)) (h : (store a (.int k (k.wrap (n + y))) .atomic).run P w = .ok () w') :
    (Extern.Atomic.update (Op.intArith .add) k true #[.pointer (some a), .int k1 y]).run P w = .ok (.int k (k.wrap (n + y))) w' := by
  show Sem.run P (do
    let a ← asAddr (.pointer (some a))
    let old ← Extern.Atomic.read (.int k) a
    let new ← Op.intArith .add k (← asInt old) (← asInt (.int k1 y))
    store a new .atomic
    pure (if true then new else old)) w = _
  simp [asAddr, run_read hc, asInt, asIntOf, Op.intArith, h]
theorem digits_u8 : ∀ (n t : Nat) (acc : Array Value), (∀ (i : Nat) (u : Value), acc[i]? = some u → ∃ z, u = Value.int .u8 z) → ∀ (i : Nat) (u : Value), (Extern.BytealgMakeNoZero.digits n t acc)[i]? = some u → ∃ z, u = Value.int .u8 z
  | 0, _, acc, h => h
  | n + 1, t, acc, h => by
    rw [Extern.BytealgMakeNoZero.digits]
    refine digits_u8 n _ _ fun i u hi => ?_
    rw [Array.getElem?_push] at hi
    split at hi
    · cases hi; exact ⟨_, rfl⟩
    · exact h i u hi
theorem run_makeNoZero8 (w : World) (ps : Array TypeId) (t e : TypeId) (ht : P.underlying t = some (.slice e)) (n : Nat) (hn : n ≤ 281474976710656) :
    ∃ cs : Array Value, (Extern.BytealgMakeNoZero.makeNoZero ps #[t] #[.int .i64 n]).run P w = .ok (.slice (some ⟨w.heap.size, 0, none⟩) n cs.size) (w.drew.drew.alloc (.cells cs e)) ∧ n ≤ cs.size ∧ (n ≤ maxLen → cs.size ≤ maxLen) ∧ ∀ (i : Nat) (u : Value), cs[i]? = some u → ∃ z, u = Value.int .u8 z := by
  have hdef : Extern.BytealgMakeNoZero.makeNoZero ps #[t] #[.int .i64 n] =
      (do
        let .slice elem ← underlying t | stuck "bytealg.MakeNoZero: slice type expected"
        if (n : Int) < 0 || (n : Int) > 2 ^ 48 then runtimePanic (.error "makeslice: len out of range")
        let cap ← choose (.appendCap (n : Int).toNat 0 elem)
        askRoom cap
        let bytes ← choose (.extern "internal/bytealg.MakeNoZero.bytes" 0)
        let a ← newRow elem (Extern.BytealgMakeNoZero.digits cap bytes #[])
        pure (.slice (some a) (n : Int).toNat cap)) := rfl
  refine ⟨Extern.BytealgMakeNoZero.digits (grownCap w n 0 e) ((Question.extern "internal/bytealg.MakeNoZero.bytes" 0).cut (w.tape (w.drawn + 1) (.extern "internal/bytealg.MakeNoZero.bytes" 0))) #[], ?_, ?_, ?_, digits_u8 _ _ _ (by simp)⟩
  · rw [hdef]
    have h1 : ¬ (n : Int) < 0 := by omega
    have h2 : ¬ (281474976710656 : Int) < (n : Int) := by omega
    simp [run_underlying ht, h1, h2, Question.forced, newRow, Lib.size_digits, grownCap]
  · rw [Lib.size_digits]
    simpa using grownCap_ge w n 0 e
  · intro hm
    rw [Lib.size_digits]
    simpa using grownCap_le_maxLen w n 0 e hm

theorem globalNamed_lt {n : String} {g : Nat} (h : P.globals.findIdx? (·.name == n) = some g) : g < P.globals.size := by
  rw [Array.findIdx?_eq_some_iff_getElem] at h
  exact h.1
theorem lay_one {loc : Nat} {x : AV} {r : Ver} (hr : HR G B h w) (he : h[loc]? = some (.lay [x])) (ha : G.at loc 0 = some r) : ∃ u, V G x u ∧ w.cell? ⟨r.b, r.sh, none⟩ = some u := by
  obtain ⟨b, vs, hb, hg, hv, hR⟩ := hr.get ha
  rw [he] at hb; cases hb
  rcases hR with rfl | ⟨r0, rfl, hl, ht, c, T, fr, q1, q2, q3, q4⟩
  · simp at hv
  · simp at hv
    subst hv
    obtain ⟨x', u, e1, e2, e3⟩ := q4 0 (by rw [ht]; simp)
    simp at e1
    subst e1
    refine ⟨u, e3, ?_⟩
    rw [Nat.zero_add] at e2
    rw [World.cell?, q1]
    simpa using e2
theorem extract_bytes (l : List UInt8) (i n : Nat) : (⟨l.toArray⟩ : ByteArray).extract i (i + n) = ⟨((l.drop i).take n).toArray⟩ := by
  apply ByteArray.ext
  rw [ByteArray.data_extract]
  simp
theorem beq_bytes (a b : List UInt8) : ((⟨a.toArray⟩ : ByteArray) == ⟨b.toArray⟩) = (a == b) := by
  rw [show ((⟨a.toArray⟩ : ByteArray) == ⟨b.toArray⟩) = (a.toArray == b.toArray) from rfl]
  simp
theorem run_index {a b : Value} {la lb : List UInt8} {g : Nat} {m : Int} (ha : (Extern.Bytes.bytesOf a).run P w = .ok ⟨la.toArray⟩ w) (hb : (Extern.Bytes.bytesOf b).run P w = .ok ⟨lb.toArray⟩ w) (hg : P.globals.findIdx? (·.name == "internal/bytealg.MaxLen") = some g)
    (hc : w.cell? ⟨g, 0, none⟩ = some (.int .i64 m)) (h2 : 2 ≤ lb.length) (hm : (lb.length : Int) ≤ m) (hl : la.length < 4294967281) : (Extern.BytealgIndex.index #[a, b]).run P w = .ok (.int .i64 (idxOf la lb)) w := by
  have hmax : (Extern.BytealgIndex.maxLen).run P w = .ok m w := by
    simp [Extern.BytealgIndex.maxLen, globalAddr, hg, run_load, hc, asInt, asIntOf]
  have e1 : (⟨la.toArray⟩ : ByteArray).size = la.length := by simp [ByteArray.size]
  have e2 : (⟨lb.toArray⟩ : ByteArray).size = lb.length := by simp [ByteArray.size]
  have c1 : ¬ lb.length < 2 := by omega
  have c2 : ¬ m < (lb.length : Int) := by omega
  have c3 : ¬ 4294967281 ≤ la.length := by omega
  have e3 : ((List.range (la.length + 1 - lb.length)).find? fun i => (⟨la.toArray⟩ : ByteArray).extract i (i + lb.length) == ⟨lb.toArray⟩) = (List.range (la.length + 1 - lb.length)).find? fun i => (la.drop i).take lb.length == lb := by
    congr 1
    funext i
    rw [extract_bytes]
    exact (beq_bytes _ _)
  change Sem.run P (do
    let a ← Extern.Bytes.bytesOf a
    let b ← Extern.Bytes.bytesOf b
    if b.size < 2 || (b.size : Int) > (← Extern.BytealgIndex.maxLen) then
      unsupported (.noEntry "extern/internal/bytealg.Index.length")
    if a.size ≥ 2 ^ 32 - 15 then
      unsupported (.noEntry "extern/internal/bytealg.Index: a haystack of 2^32 - 15 bytes or more")
    match (List.range (a.size + 1 - b.size)).find? fun i => a.extract i (i + b.size) == b with
    | some i => pure (goInt i)
    | none => pure (goInt (-1))) w = _
  simp only [Sem.run_bind, ha, hb, hmax, Result.andThen_ok, e1, e2, e3]
  simp [c1, c2, c3, idxOf, hmax]
  cases hq : (List.range (la.length + 1 - lb.length)).find? fun i => (la.drop i).take lb.length == lb with
  | none => simp [goInt]
  | some i => simp [goInt]
theorem mx_sound {k : XK} {f : FuncId} (hf : XFn P f k) {args : List AV} {r : CR} (hm : mx k args h = some r) : CallR P B W0 f args h r := by
  intro G us w hx hr hg
  obtain ⟨fn, e, f1, f2, f3, f4, f5, f6⟩ := hf
  refine .inr ?_
  have hrun := run_callFunc_extern f1 f2 f3 f4 f5 us.toArray w
  have done : ∀ {v : AV} {h' : Heap} {u : Value} {w' : World} {G' : Gh}, r = .ret v h' → (e us.toArray).run P w = .ok u w' → Step G G' B h' w w' → V G' v u →
      ∃ v h' u w' G', r = .ret v h' ∧ (callFunc f us.toArray).run P w = .ok (.value u) w' ∧ Step G G' B h' w w' ∧ V G' v u := fun h1 h2 h3 h4 => ⟨_, _, _, _, _, h1, by rw [hrun, h2]; rfl, h3, h4⟩
  unfold mx at hm
  split at hm
  · -- the same
    cases hm
    obtain rfl := f6
    cases hx with
    | cons h1 h2 => cases h2; exact done rfl rfl (.refl hr) h1
  · -- MakeNoZero
    rename_i t el n
    obtain ⟨⟨ps, rfl⟩, ht⟩ := f6
    split at hm
    · rename_i hn
      cases hm
      cases hx with
      | cons h1 h2 =>
        cases h2
        have := V_int h1
        subst this
        obtain ⟨m, rfl⟩ : ∃ m : Nat, n = (m : Int) := ⟨n.toNat, by omega⟩
        obtain ⟨cs, hrun, hle, hmx, hc8⟩ := run_makeNoZero8 (P := P) w ps t el ht m (by omega)
        have hmm := hmx (by simp only [maxLen]; omega)
        have hr2 : (Int.toNat (m : Int)) = m := by simp
        have hvl : VL G (List.replicate m AV.any) (cs.toList.take m) := VL.of_get (by simp; omega) (fun i x u e1 e2 => by
          rw [List.getElem?_replicate] at e1
          split at e1
          · cases e1
            rename_i hi
            rw [List.getElem?_take_of_lt hi, Array.getElem?_toList] at e2
            obtain ⟨z, hz⟩ := hc8 i u e2
            rw [hz]
            exact .any z
          · cases e1)
        have hS := Step.newRow (c := cs) (T := el) (w' := w.drew.drew.alloc (.cells cs el)) hr hvl
          (fun p hp => by rw [List.getElem?_take_of_lt (by simpa using hp), Array.getElem?_toList])
          (heap_alloc_new w.drew.drew _) (by simp) (fun b hb => (Keep.alloc [] w.drew.drew _).block b hb (by simp)) rfl rfl rfl
        rw [hr2]
        refine done rfl hrun hS ?_
        rw [← hr.len]
        exact .sl (r := ⟨w.heap.size, 0, (List.replicate m AV.any).length, _, 0⟩) (by rw [at_new]; rfl) (Nat.le_refl _) (by simp) hle (by simp) (fun e => by cases e) (fun _ => by simp; omega) hmm (by omega)
    · cases hm
  · -- IndexByte
    obtain rfl := f6
    split at hm
    · rename_i l hl
      cases hm
      rename_i c _
      cases hx with
      | cons h1 h2 => cases h2 with
        | cons h3 h4 =>
          cases h4
          have := V_int h3
          subst this
          refine done rfl ?_ (.refl hr) (.int _ _)
          have hb := mbytes_sound (P := P) hr hl h1
          exact run_indexByte hb
    · cases hm
  · -- Index
    rename_i g a b
    obtain ⟨rfl, hgn⟩ := f6
    split at hm
    · rename_i la lb lo hi h1 h2 h3
      split at hm
      · rename_i hc
        obtain ⟨c1, c2, c3⟩ := hc
        cases hm
        cases hx with
        | cons x1 x2 => cases x2 with
          | cons x3 x4 =>
            cases x4
            refine done rfl ?_ (.refl hr) (.int _ _)
            have hgl : g < P.globals.size := globalNamed_lt hgn
            obtain ⟨rr, e1, e2, e3, e4⟩ := hg.g g hgl
            obtain ⟨u, o1, hcell⟩ := lay_one hr h3 e1
            cases o1 with
            | @iv _ _ m m1 m2 =>
                rw [e2, e4] at hcell
                exact run_index (mbytes_sound (P := P) hr h1 x1) (mbytes_sound (P := P) hr h2 x3) hgn hcell c1 (by omega) c3
      · cases hm
    · cases hm
  · -- load
    obtain rfl := f6
    rename_i k loc off ver lim
    cases hx with
    | cons h1 h2 =>
      cases h2
      cases h1 with
      | ptr g1 g2 g3 =>
        split at hm
        · rename_i k' n hrd
          split at hm
          · rename_i hk
            subst hk
            cases hm
            obtain ⟨u, k1, k2⟩ := rd1 hr hrd g1 g2 g3
            rw [V_int k1] at k2
            exact done rfl (run_loadT k2) (.refl hr) (.int _ _)
          · cases hm
        · cases hm
  · -- store
    obtain rfl := f6
    rename_i loc off ver lim x
    split at hm
    · rename_i h' hw
      cases hm
      cases hx with
      | cons h1 h2 => cases h2 with
        | cons h3 h4 =>
          cases h4
          cases h1 with
          | ptr g1 g2 g3 =>
            obtain ⟨w', hst, hS, _⟩ := wr_atomic (P := P) .atomic hr hw g1 g2 g3 h3
            exact done rfl (run_storeT hst) hS (.tup .nil)
    · cases hm
  · -- compare and swap
    obtain rfl := f6
    rename_i k loc off ver lim k1 o k2 y
    split at hm
    · rename_i k' n h' hrd hw
      split at hm
      · rename_i hk
        obtain ⟨rfl, rfl, rfl⟩ := hk
        cases hx with
        | cons h1 h2 => cases h2 with
          | cons h3 h4 => cases h4 with
            | cons h5 h6 =>
              cases h6
              have := V_int h3
              subst this
              have := V_int h5
              subst this
              cases h1 with
              | @ptr _ _ _ _ r g1 g2 g3 =>
                obtain ⟨w', hst, hS, hfr, hset⟩ := wr_atomic (P := P) .atomic hr hw g1 g2 g3 h5
                obtain ⟨u, e1, e2⟩ := rd1 hr hrd g1 g2 g3
                rw [V_int e1] at e2
                split at hm
                · rename_i hno
                  cases hm
                  subst hno
                  exact ⟨_, _, _, _, _, rfl, run_call_cas_hit f1 f2 f3 f4 _ f5 e2 hfr, hset ▸ hS, .bool true⟩
                · rename_i hno
                  cases hm
                  exact ⟨_, _, _, _, _, rfl, run_call_cas_miss f1 f2 f3 f4 _ f5 e2 hfr hno, .refl hr, .bool false⟩
      · cases hm
    · cases hm
  · -- add
    obtain rfl := f6
    rename_i k loc off ver lim k1 y
    split at hm
    · rename_i k' n hrd
      split at hm
      · rename_i hk
        subst hk
        split at hm
        · rename_i h' hw
          cases hm
          cases hx with
          | cons h1 h2 => cases h2 with
            | cons h3 h4 =>
              cases h4
              have := V_int h3
              subst this
              cases h1 with
              | ptr g1 g2 g3 =>
                obtain ⟨w', hst, hS, hfr⟩ := wr_atomic (P := P) .atomic hr hw g1 g2 g3 (.int _ _)
                obtain ⟨u, e1, e2⟩ := rd1 hr hrd g1 g2 g3
                rw [V_int e1] at e2
                exact done rfl (run_add e2 hst) hS (.int _ _)
        · cases hm
      · cases hm
    · cases hm
  · -- Count
    obtain rfl := f6
    split at hm
    · rename_i l hl
      cases hm
      rename_i c _
      cases hx with
      | cons h1 h2 => cases h2 with
        | cons h3 h4 =>
          cases h4
          have := V_int h3
          subst this
          exact done rfl (run_count (mbytes_sound (P := P) hr hl h1)) (.refl hr) (.int _ _)
    · cases hm
  · -- marks
    obtain ⟨m, rfl⟩ := f6
    cases hm
    cases hx
    exact ⟨_, _, _, _, _, rfl, run_call_mark0 f1 f2 f3 f4 m f5 w, .refl hr, .tup .nil⟩
  · obtain ⟨m, rfl⟩ := f6
    cases hm
    cases hx with
    | cons h1 h2 =>
      cases h2
      cases h1 with
      | ptr g1 g2 g3 => exact ⟨_, _, _, _, _, rfl, run_call_marked f1 f2 f3 f4 m f5 _ w, .refl hr, .tup .nil⟩
  · cases hm

theorem lookup_mem {f : FuncId} {k : XK} : ∀ {tab : List (FuncId × XK)}, tab.lookup f = some k → (f, k) ∈ tab
  | [], hk => by cases hk
  | p :: t, hk => by
    rw [List.lookup_cons] at hk
    split at hk
    · rename_i he
      cases hk
      have := eq_of_beq he
      subst this
      exact List.mem_cons_self
    · exact List.mem_cons_of_mem _ (lookup_mem hk)
theorem mext_ok {tab : List (FuncId × XK)} (h : ∀ f k, (f, k) ∈ tab → XFn P f k) (B : Nat) (W0 : World) : HooksOK P B W0 (mext tab) := by
  intro f g hg args h' r hr
  unfold mext at hg
  split at hg
  · rename_i k hk
    cases hg
    refine mx_sound (h f k ?_) hr
    exact lookup_mem hk
  · cases hg
end
end Go.Mx
