/- Summaries: calls that only read; closed calls. -/
import Derived.Test.YtflgkiddnmpfbaaGreatDoorMxO
set_option linter.unusedVariables false
set_option linter.unusedSimpArgs false
namespace Go.Mx
open Go Go.Gx

def Blk.lock : Blk → Blk
  | .row cells v m f _ tt => .row cells v m f true tt
  | .lay cells => .lay cells
  | _ => .dead
theorem lock_own (b : Blk) : b.lock.own = false := by cases b <;> rfl
theorem HR.lock {G : Gh} {B : Nat} {h : Heap} {w : World} (hr : HR G B h w) : HR G w.heap.size (h.map Blk.lock) w := by
  refine ⟨hr.len, fun loc b vs hb hg => ?_, hr.lt, fun loc v r b hat hb => ?_, fun l1 l2 v1 v2 r1 r2 h1 _ hB _ => ?_, Nat.le_refl _⟩
  · rw [Arr.get_map (f := Blk.lock) rfl, Option.map_eq_some_iff] at hb
    obtain ⟨b0, h1, rfl⟩ := hb
    have := hr.blk loc b0 vs h1 hg
    cases b0 with
    | row cells v m f ro tt => exact this
    | lay cells => exact this
    | _ => trivial
  · rw [Arr.get_map (f := Blk.lock) rfl, Option.map_eq_some_iff] at hb
    obtain ⟨b0, _, rfl⟩ := hb
    have := hr.lt _ _ _ hat
    rw [lock_own]
    exact Iff.intro (fun e => by cases e) (fun e => by omega)
  · have := hr.lt _ _ _ h1; omega

/-- Where a block's versions lie does not matter to it. -/
def AV.scal1 : AV → Bool
  | .bool _ | .int _ _ | .str _ | .nilp | .nils | .nilm | .nilf | .nili | .any | .opq => true
  | _ => false
def AV.scal : AV → Bool
  | .tup l => l.all AV.scal1
  | v => v.scal1
theorem V.scal1 {G G' : Gh} {v : AV} {u : Value} (hs : v.scal1 = true) (h : V G v u) : V G' v u := by
  cases h <;> first | (cases hs; done) | constructor
theorem VL.scal1 {G G' : Gh} : ∀ {l : List AV} {us : List Value}, l.all AV.scal1 = true → VL G l us → VL G' l us
  | [], us, _, h => by cases h; exact .nil
  | x :: l, us, hs, h => by
    cases h with
    | cons h1 h2 =>
      simp only [List.all_cons, Bool.and_eq_true] at hs
      exact .cons (V.scal1 hs.1 h1) (VL.scal1 hs.2 h2)
theorem V.scal {G G' : Gh} {v : AV} {u : Value} (hs : v.scal = true) (h : V G v u) : V G' v u := by
  cases v with
  | tup l => cases h with | tup h => exact .tup (VL.scal1 hs h)
  | _ => exact V.scal1 hs h

/-- The package variables as the abstract heap hgl says. -/
structure Laid (P : Program) (hgl : Heap) (Gg : Gh) (B : Nat) (W0 : World) : Prop where
  hr : HR Gg B hgl W0
  low : ∀ loc v r, Gg.at loc v = some r → r.b < B
  g : ∀ g, g < P.globals.size → ∃ r, Gg.at g 0 = some r ∧ r.b = g ∧ r.lo = 0 ∧ r.sh = 0
def HOK (P : Program) (hgl : Heap) (Gg : Gh) (hk : Hooks) : Prop := ∀ B W0, Laid P hgl Gg B W0 → HooksOK P B W0 hk

section
variable {P : Program} {hgl : Heap} {Gg : Gh} {B : Nat} {W0 w : World}

theorem Laid.at (h : Laid P hgl Gg B W0) (hl : ∀ b, b < B → w.heap[b]? = W0.heap[b]?) (hs : B ≤ w.heap.size) {B' : Nat} (hB : B ≤ B') (hs' : B' ≤ w.heap.size) : Laid P hgl Gg B' w := by
  refine ⟨⟨h.hr.len, fun loc b vs hb hg => (h.hr.blk loc b vs hb hg).mono (Gh.le_refl _) fun v r hv => hl _ (h.low loc v r (Gh.at_of hg hv)), fun loc v r hat => Nat.lt_of_lt_of_le (h.low loc v r hat) hs, fun loc v r b hat hb => ?_, fun l1 l2 v1 v2 r1 r2 h1 _ hB1 _ => ?_, hs'⟩, fun loc v r hat => Nat.lt_of_lt_of_le (h.low loc v r hat) hB, h.g⟩
  · have h1 := h.hr.own loc v r b hat hb
    have h2 := h.low loc v r hat
    exact ⟨fun e => by have := h1.1 e; omega, fun e => by omega⟩
  · have := h.low l1 v1 r1 h1; omega

/-- A call that needs nothing but to read: the heap stays. -/
theorem pure_call (hmo : P.follows .mixedOrders = true) (hng : NoNG P) {hk : Hooks} (hh : HOK P hgl Gg hk) (hL : Laid P hgl Gg B W0) {n f : Nat} {args : List AV} {h h' : Heap} {v : AV}
    (hc : mbody P (mrun P hk n) f args (h.map Blk.lock) = some (.ret v h')) (hs : v.scal = true) : CallR P B W0 f args h (.ret v h) := by
  intro G us w hx hr hg
  left
  have hL' : Laid P hgl Gg w.heap.size w := hL.at hg.low hr.base hr.base (Nat.le_refl _)
  have hg' : Glob P w.heap.size w G w := ⟨hg.g, fun _ _ => rfl⟩
  obtain ⟨h1, h2⟩ := mbody_sound hng (mrun_sound hmo hng (hh _ _ hL') n).1 (mrun_sound hmo hng (hh _ _ hL') n).2.2 hc hx hr.lock hg'
  refine ⟨h1.mono fun e w' hcr => ?_, h2⟩
  obtain ⟨G', hS, u, hv, rfl⟩ := hcr
  refine ⟨G, Step.grow hr hS.fr.size (fun b hb => hS.fr.low b hb fun loc v r hat hB e => ?_) hS.fr.os hS.fr.tape hS.fr.output, u, V.scal hs hv, rfl⟩
  have := hr.lt _ _ _ hat; omega

/-- A call that sees the package variables alone. -/
theorem closed_call (hmo : P.follows .mixedOrders = true) (hng : NoNG P) {hk : Hooks} (hh : HOK P hgl Gg hk) (hL : Laid P hgl Gg B W0) {n f : Nat} {args : List AV} {h h' : Heap} {v : AV}
    (hc : mbody P (mrun P hk n) f args hgl = some (.ret v h')) (ha : args.all AV.scal1 = true) (hs : v.scal = true) : CallR P B W0 f args h (.ret v h) := by
  intro G us w hx hr hg
  left
  have hL' : Laid P hgl Gg w.heap.size w := hL.at hg.low hr.base hr.base (Nat.le_refl _)
  have hg' : Glob P w.heap.size w Gg w := ⟨hL.g, fun _ _ => rfl⟩
  obtain ⟨h1, h2⟩ := mbody_sound hng (mrun_sound hmo hng (hh _ _ hL') n).1 (mrun_sound hmo hng (hh _ _ hL') n).2.2 hc (VL.scal1 ha hx) hL'.hr hg'
  refine ⟨h1.mono fun e w' hcr => ?_, h2⟩
  obtain ⟨G', hS, u, hv, rfl⟩ := hcr
  refine ⟨G, Step.grow hr hS.fr.size (fun b hb => hS.fr.low b hb fun loc v r hat hB e => ?_) hS.fr.os hS.fr.tape hS.fr.output, u, V.scal hs hv, rfl⟩
  have := hL'.low _ _ _ hat; omega

theorem hok_ext (tab : List (FuncId × XK)) (h : ∀ f k, (f, k) ∈ tab → XFn P f k) : HOK P hgl Gg (mext tab) := fun B W0 _ => mext_ok h B W0
/-- One more function that is known. -/
def addHook (hk : Hooks) (f : FuncId) (g : List AV → Heap → Option CR) : Hooks := fun k => match Nat.beq k f with
  | true => some g
  | false => hk k
theorem hok_add {hk : Hooks} (hh : HOK P hgl Gg hk) {f : FuncId} {g : List AV → Heap → Option CR} (hg : ∀ B W0, Laid P hgl Gg B W0 → ∀ args h r, g args h = some r → CallR P B W0 f args h r) : HOK P hgl Gg (addHook hk f g) := by
  intro B W0 hL f' g' hg' args h r hr
  unfold addHook at hg'
  cases hb : Nat.beq f' f with
  | true =>
    rw [hb] at hg'
    cases hg'
    have := Nat.eq_of_beq_eq_true hb
    subst this
    exact hg B W0 hL args h r hr
  | false => rw [hb] at hg'; exact hh B W0 hL f' g' hg' args h r hr
end
end Go.Mx
