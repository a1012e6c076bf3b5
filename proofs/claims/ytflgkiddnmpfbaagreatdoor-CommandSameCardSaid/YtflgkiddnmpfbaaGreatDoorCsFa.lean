/- The functions of the law: their models, and that the program does what they say. -/
import Derived.Test.YtflgkiddnmpfbaaGreatDoorGxR
import Derived.Test.YtflgkiddnmpfbaaGreatDoorCsAl
set_option linter.unusedVariables false
set_option linter.unusedSimpArgs false
namespace Go.Proofs.YtflgkiddnmpfbaaGreatDoor
open Go Go.Gx Go.Mx
structure ApiRange where
  Lo : Int
  Hi : Int
  deriving DecidableEq
def rApiRange : Rp ApiRange := Rp.via (Rp.pair (rInt .u32) (rInt .u32)) fun x => (x.Lo, x.Hi)
theorem rApiRange_Lo : SubAt rApiRange 0 (rInt .u32) (fun x => x.Lo) := sub_via (sub_fst _ _)
theorem rApiRange_Hi : SubAt rApiRange 1 (rInt .u32) (fun x => x.Hi) := sub_via (sub_snd _ (sub_all _))
theorem rApiRange_shape {O : List Nat} {w : World} {cs : List Value} {x : ApiRange} (h : rApiRange.rel O w cs x) : cs = [.int .u32 x.Lo, .int .u32 x.Hi] := by
  obtain ⟨k0, m0, rfl, g0, t0⟩ := h
  have g1 := t0
  obtain rfl : _ = [_] := g0
  obtain rfl : _ = [_] := g1
  exact rfl
theorem rApiRange_mk (O : List Nat) (w : World) {x : ApiRange} : rApiRange.rel O w [.int .u32 x.Lo, .int .u32 x.Hi] x := ⟨_, _, rfl, rfl, rfl⟩
structure ApiCommand where
  Tag : List UInt8
  Kind : Int
  Mailbox : List UInt8
  Set : List ApiRange
  Items : Int
  Mode : Int
  Silent : Bool
  Flags : UInt8
  Data : List UInt8
  deriving DecidableEq
def rApiCommand : Rp ApiCommand := Rp.via (Rp.pair rStr (Rp.pair (rInt .i64) (Rp.pair rStr (Rp.pair (Rp.sl rApiRange) (Rp.pair (rInt .i64) (Rp.pair (rInt .i64) (Rp.pair rBool (Rp.pair rU8 (Rp.sl rU8))))))))) fun x => (x.Tag, x.Kind, x.Mailbox, x.Set, x.Items, x.Mode, x.Silent, x.Flags, x.Data)
theorem rApiCommand_Tag : SubAt rApiCommand 0 rStr (fun x => x.Tag) := sub_via (sub_fst _ _)
theorem rApiCommand_Kind : SubAt rApiCommand 1 (rInt .i64) (fun x => x.Kind) := sub_via (sub_snd _ (sub_fst _ _))
theorem rApiCommand_Mailbox : SubAt rApiCommand 2 rStr (fun x => x.Mailbox) := sub_via (sub_snd _ (sub_snd _ (sub_fst _ _)))
theorem rApiCommand_Set : SubAt rApiCommand 3 (Rp.sl rApiRange) (fun x => x.Set) := sub_via (sub_snd _ (sub_snd _ (sub_snd _ (sub_fst _ _))))
theorem rApiCommand_Items : SubAt rApiCommand 4 (rInt .i64) (fun x => x.Items) := sub_via (sub_snd _ (sub_snd _ (sub_snd _ (sub_snd _ (sub_fst _ _)))))
theorem rApiCommand_Mode : SubAt rApiCommand 5 (rInt .i64) (fun x => x.Mode) := sub_via (sub_snd _ (sub_snd _ (sub_snd _ (sub_snd _ (sub_snd _ (sub_fst _ _))))))
theorem rApiCommand_Silent : SubAt rApiCommand 6 rBool (fun x => x.Silent) := sub_via (sub_snd _ (sub_snd _ (sub_snd _ (sub_snd _ (sub_snd _ (sub_snd _ (sub_fst _ _)))))))
theorem rApiCommand_Flags : SubAt rApiCommand 7 rU8 (fun x => x.Flags) := sub_via (sub_snd _ (sub_snd _ (sub_snd _ (sub_snd _ (sub_snd _ (sub_snd _ (sub_snd _ (sub_fst _ _))))))))
theorem rApiCommand_Data : SubAt rApiCommand 8 (Rp.sl rU8) (fun x => x.Data) := sub_via (sub_snd _ (sub_snd _ (sub_snd _ (sub_snd _ (sub_snd _ (sub_snd _ (sub_snd _ (sub_snd _ (sub_all _)))))))))
theorem rApiCommand_shape {O : List Nat} {w : World} {cs : List Value} {x : ApiCommand} (h : rApiCommand.rel O w cs x) : ∃ a0 c0 a1 c1, cs = [vstr x.Tag, .int .i64 x.Kind, vstr x.Mailbox, .slice a0 (List.length x.Set) c0, .int .i64 x.Items, .int .i64 x.Mode, .bool x.Silent, .int .u8 ((UInt8.toNat x.Flags : Nat) : Int), .slice a1 (List.length x.Data) c1] ∧ Rp.rel (Rp.sl rApiRange) O w [.slice a0 (List.length x.Set) c0] x.Set ∧ Rp.rel (Rp.sl rU8) O w [.slice a1 (List.length x.Data) c1] x.Data := by
  obtain ⟨k0, m0, rfl, g0, t0⟩ := h
  obtain ⟨k1, m1, rfl, g1, t1⟩ := t0
  obtain ⟨k2, m2, rfl, g2, t2⟩ := t1
  obtain ⟨k3, m3, rfl, g3, t3⟩ := t2
  obtain ⟨k4, m4, rfl, g4, t4⟩ := t3
  obtain ⟨k5, m5, rfl, g5, t5⟩ := t4
  obtain ⟨k6, m6, rfl, g6, t6⟩ := t5
  obtain ⟨k7, m7, rfl, g7, t7⟩ := t6
  have g8 := t7
  obtain rfl : _ = [_] := g0
  obtain rfl : _ = [_] := g1
  obtain rfl : _ = [_] := g2
  obtain ⟨a0, c0, q0, rfl, u0⟩ := g3
  obtain rfl : _ = [_] := g4
  obtain rfl : _ = [_] := g5
  obtain rfl : _ = [_] := g6
  obtain rfl : _ = [_] := g7
  obtain ⟨a1, c1, q1, rfl, u1⟩ := g8
  exact ⟨a0, c0, a1, c1, rfl, ⟨a0, c0, q0, rfl, u0⟩, ⟨a1, c1, q1, rfl, u1⟩⟩
theorem rApiCommand_mk {O : List Nat} {w : World} {x : ApiCommand} {a0 : Option Addr} {c0 : Nat} {a1 : Option Addr} {c1 : Nat} (h0 : Rp.rel (Rp.sl rApiRange) O w [.slice a0 (List.length x.Set) c0] x.Set) (h1 : Rp.rel (Rp.sl rU8) O w [.slice a1 (List.length x.Data) c1] x.Data) : rApiCommand.rel O w [vstr x.Tag, .int .i64 x.Kind, vstr x.Mailbox, .slice a0 (List.length x.Set) c0, .int .i64 x.Items, .int .i64 x.Mode, .bool x.Silent, .int .u8 ((UInt8.toNat x.Flags : Nat) : Int), .slice a1 (List.length x.Data) c1] x := ⟨_, _, rfl, rfl, ⟨_, _, rfl, rfl, ⟨_, _, rfl, rfl, ⟨_, _, rfl, h0, ⟨_, _, rfl, rfl, ⟨_, _, rfl, rfl, ⟨_, _, rfl, rfl, ⟨_, _, rfl, rfl, h1⟩⟩⟩⟩⟩⟩⟩⟩
def wfApiRange (x : ApiRange) : Prop := ((IntKind.min .u32 ≤ x.Lo ∧ x.Lo ≤ IntKind.max .u32)) ∧ ((IntKind.min .u32 ≤ x.Hi ∧ x.Hi ≤ IntKind.max .u32))
def wfApiCommand (x : ApiCommand) : Prop := (List.length x.Tag ≤ maxLen) ∧ ((IntKind.min .i64 ≤ x.Kind ∧ x.Kind ≤ IntKind.max .i64)) ∧ (List.length x.Mailbox ≤ maxLen) ∧ ((List.length x.Set ≤ maxLen ∧ ∀ y ∈ x.Set, wfApiRange y)) ∧ ((IntKind.min .i64 ≤ x.Items ∧ x.Items ≤ IntKind.max .i64)) ∧ ((IntKind.min .i64 ≤ x.Mode ∧ x.Mode ≤ IntKind.max .i64)) ∧ (True) ∧ (True) ∧ ((List.length x.Data ≤ maxLen ∧ ∀ y ∈ x.Data, True))

theorem en13 : Enters Tryz.prog 13 := Enters.mk Tryz.func13 (by kernel_rfl) (by kernel_rfl)
theorem en14 : Enters Tryz.prog 14 := Enters.mk Tryz.func14 (by kernel_rfl) (by kernel_rfl)
theorem en21 : Enters Tryz.prog 21 := Enters.mk Tryz.func21 (by kernel_rfl) (by kernel_rfl)
theorem en22 : Enters Tryz.prog 22 := Enters.mk Tryz.func22 (by kernel_rfl) (by kernel_rfl)
theorem en51 : Enters Tryz.prog 51 := Enters.mk Tryz.func51 (by kernel_rfl) (by kernel_rfl)
theorem eqT68 (a0 : Int) (a1 : Int) (b0 : Int) (b1 : Int) (w : World) : (Op.equal 68 (.agg (List.toArray [(.int .u32 a0), (.int .u32 a1)])) (.agg (List.toArray [(.int .u32 b0), (.int .u32 b1)]))).run Tryz.prog w = .ok ((a0 == b0) && (a1 == b1)) w := by
  rw [equal_succ, run_equalIn_struct w 9999 68 _ _ (by kernel_rfl) (by kernel_rfl)]
  have u43 := Tryz.underlying43; have a43 := Tryz.isAgg43; have z43 := Tryz.sizeOf43
  simp only [Program.fieldsOf, Tryz.underlying68]
  go_simp
  by_cases h0 : a0 = b0 <;> by_cases h1 : a1 = b1 <;> simp [h0, h1]
def F_law07_alive (N : Nat) : Option Bool := some true
theorem f14_ok (N : Nat) {O0 : List Nat} {w0 : World} (hO : ∀ b, b ∈ O0 → b < w0.heap.size) (hG : rGlob.rel O0 w0 [] ()) (y : Bool) (H : F_law07_alive N = some y) :
    Calls Tryz.prog 14 (List.toArray []) w0 fun e w => ∃ z : Unit, e = .returned (.bool y) ∧ Keep [] w0 w ∧ True := by
  cases H
  obtain ⟨_, W0, ⟨hgl, Gg, hL, hc⟩, h1, h2⟩ := hG
  exact (closed_keep hmo hng (hok_ext tab xfn) hL h1 (fun b hb => (h2 b hb).2) (retIs_spec (hc.a14))).mono fun e w h => ⟨(), h.1, h.2, trivial⟩
-- cubbyhole/cubbyholeref07.Few
def F_ref07_Few_j1 (N : Nat) (x17 : Bool) : Option Bool :=
  some x17
def F_ref07_Few (N : Nat) (p0 : ApiCommand) : Option Bool :=
  (if (decide (((p0.Tag.length : Int) : Int) ≤ (100 : Int))) = true then (if (decide (((p0.Mailbox.length : Int) : Int) ≤ (300 : Int))) = true then (if (decide (((p0.Set.length : Int) : Int) ≤ (60 : Int))) = true then F_ref07_Few_j1 N   (decide (((p0.Data.length : Int) : Int) ≤ (500 : Int))) else F_ref07_Few_j1 N   false) else F_ref07_Few_j1 N   false) else F_ref07_Few_j1 N   false)
set_option maxRecDepth 100000 in
set_option maxHeartbeats 4000000 in
theorem f21_ok (N : Nat) {O0 : List Nat} {w0 : World} (hO : ∀ b, b ∈ O0 → b < w0.heap.size) (hG : rGlob.rel O0 w0 [] ()) (pcs0 : List Value) (p0 : ApiCommand) (ph0 : Rp.rel rApiCommand O0 w0 pcs0 p0) (y : Bool) (H : F_ref07_Few N p0 = some y) :
    Calls Tryz.prog 21 (List.toArray [(.agg (List.toArray pcs0))]) w0 fun e w => ∃ z : Unit, e = .returned (.bool y) ∧ Keep [] w0 w ∧ True := by
  have hNK : ∀ b : Nat, b ∈ ([] : List Nat) → False := by intro b h; cases h
  have hC := (((Ctx.start hO).imm hG).imm ph0)
  refine calls_of_W (ts := [2]) Tryz.func21 rfl rfl Tryz.ntmps21 (Nat.le_of_ble_eq_true rfl) ?_
  refine W_seq ?_
  refine W_region ?_
  have hx8 := hC.immAt (i := 0) rfl
  obtain ⟨a2, c3, a5, c6, rfl, hs4, hs7⟩ := rApiCommand_shape hx8
  have hC9 := hC.imm hs4
  have hC11 := hC9.imm hs7
  refine WL_box (cells := [(vstr p0.Tag), (.int .i64 p0.Kind), (vstr p0.Mailbox), (.slice a2 (List.length p0.Set) c3), (.int .i64 p0.Items), (.int .i64 p0.Mode), (.bool p0.Silent), (.int .u8 ((UInt8.toNat p0.Flags : Nat) : Int)), (.slice a5 (List.length p0.Data) c6)]) hC11 (lt' rfl) rfl rfl (fun b13 w14 hC15 => ?_)
  refine WL_assign (v := (.bool false)) (lt' rfl) rfl ?_
  refine WL_nil ?_
  refine W_joinS Unit (fun (_ : Unit) (ρ : Env) (w : World) => ∃ (x17 : Bool) (ρ0 : Env) (O : List Nat), ρ = upds ρ0 [(2, (.bool x17))] ∧ Ctx O0 [] w0 O w [.imm rGlob [] ()] ∧ F_ref07_Few_j1 N   x17 = some y) (fun K22 kj21 => ?_) ?_
  · skip
    refine W_region ?_
    refine WL_fieldBox' (off' := 0) Tryz.underlying31 rfl Tryz.sizeOf9 rfl (lt' rfl) rfl ?_
    refine WL_loadBox (v := (vstr p0.Tag)) hC15 (i := 0) rfl rfl Tryz.isAgg9 (lt' rfl) rfl ?_
    refine WL_slen (a := p0.Tag) Tryz.underlying9 (lt' rfl) rfl ?_
    refine WL_ileq (a := ((p0.Tag.length : Int) : Int)) (b := (100 : Int)) (lt' rfl) rfl rfl ?_
    refine WL_move (v := (.bool (decide (((p0.Tag.length : Int) : Int) ≤ (100 : Int))))) (lt' rfl) rfl ?_
    rcases Bool.eq_false_or_eq_true (decide (((p0.Tag.length : Int) : Int) ≤ (100 : Int))) with h23 | h23
    · have H := iteT h23 H
      refine WL_yes rfl rfl rfl h23 ?_
      refine WL_fieldBox' (off' := 2) Tryz.underlying31 rfl Tryz.sizeOf9 rfl (lt' rfl) rfl ?_
      refine WL_yes rfl rfl rfl h23 ?_
      refine WL_loadBox (v := (vstr p0.Mailbox)) hC15 (i := 0) rfl rfl Tryz.isAgg9 (lt' rfl) rfl ?_
      refine WL_yes rfl rfl rfl h23 ?_
      refine WL_slen (a := p0.Mailbox) Tryz.underlying9 (lt' rfl) rfl ?_
      refine WL_yes rfl rfl rfl h23 ?_
      refine WL_ileq (a := ((p0.Mailbox.length : Int) : Int)) (b := (300 : Int)) (lt' rfl) rfl rfl ?_
      refine WL_pickT (v := (.bool (decide (((p0.Mailbox.length : Int) : Int) ≤ (300 : Int))))) (lt' rfl) (by show Value.bool _ = _; rw [h23]) rfl ?_
      refine WL_move (v := (.bool (decide (((p0.Mailbox.length : Int) : Int) ≤ (300 : Int))))) (lt' rfl) rfl ?_
      rcases Bool.eq_false_or_eq_true (decide (((p0.Mailbox.length : Int) : Int) ≤ (300 : Int))) with h24 | h24
      · have H := iteT h24 H
        refine WL_yes rfl rfl rfl h24 ?_
        refine WL_fieldBox' (off' := 3) Tryz.underlying31 rfl Tryz.sizeOf27 rfl (lt' rfl) rfl ?_
        refine WL_yes rfl rfl rfl h24 ?_
        refine WL_loadBox (v := (.slice a2 (List.length p0.Set) c3)) hC15 (i := 0) rfl rfl Tryz.isAgg27 (lt' rfl) rfl ?_
        refine WL_yes rfl rfl rfl h24 ?_
        refine WL_llen Tryz.underlying27 (lt' rfl) rfl ?_
        refine WL_yes rfl rfl rfl h24 ?_
        refine WL_ileq (a := ((p0.Set.length : Int) : Int)) (b := (60 : Int)) (lt' rfl) rfl rfl ?_
        refine WL_pickT (v := (.bool (decide (((p0.Set.length : Int) : Int) ≤ (60 : Int))))) (lt' rfl) (by show Value.bool _ = _; rw [h24]) rfl ?_
        refine WL_move (v := (.bool (decide (((p0.Set.length : Int) : Int) ≤ (60 : Int))))) (lt' rfl) rfl ?_
        rcases Bool.eq_false_or_eq_true (decide (((p0.Set.length : Int) : Int) ≤ (60 : Int))) with h25 | h25
        · have H := iteT h25 H
          refine WL_yes rfl rfl rfl h25 ?_
          refine WL_fieldBox' (off' := 8) Tryz.underlying31 rfl Tryz.sizeOf29 rfl (lt' rfl) rfl ?_
          refine WL_yes rfl rfl rfl h25 ?_
          refine WL_loadBox (v := (.slice a5 (List.length p0.Data) c6)) hC15 (i := 0) rfl rfl Tryz.isAgg29 (lt' rfl) rfl ?_
          refine WL_yes rfl rfl rfl h25 ?_
          refine WL_llen Tryz.underlying29 (lt' rfl) rfl ?_
          refine WL_yes rfl rfl rfl h25 ?_
          refine WL_ileq (a := ((p0.Data.length : Int) : Int)) (b := (500 : Int)) (lt' rfl) rfl rfl ?_
          refine WL_pickT (v := (.bool (decide (((p0.Data.length : Int) : Int) ≤ (500 : Int))))) (lt' rfl) (by show Value.bool _ = _; rw [h25]) rfl ?_
          refine WL_assign (v := (.bool (decide (((p0.Data.length : Int) : Int) ≤ (500 : Int))))) (lt' rfl) rfl ?_
          refine WL_nil ?_
          exact kj21 () _ _ ⟨(decide (((p0.Data.length : Int) : Int) ≤ (500 : Int))), _, _, self_upds ⟨rfl, trivial⟩, hC15.pick [4] (by decide) rfl, H⟩
        · have H := iteF h25 H
          refine WL_no rfl rfl rfl (by rw [h25]; rfl) (lt' rfl) ?_
          refine WL_no rfl rfl rfl (by rw [h25]; rfl) (lt' rfl) ?_
          refine WL_no rfl rfl rfl (by rw [h25]; rfl) (lt' rfl) ?_
          refine WL_no rfl rfl rfl (by rw [h25]; rfl) (lt' rfl) ?_
          refine WL_pickF (v := (.bool false)) (lt' rfl) (by show Value.bool _ = _; rw [h25]) rfl ?_
          refine WL_assign (v := (.bool false)) (lt' rfl) rfl ?_
          refine WL_nil ?_
          exact kj21 () _ _ ⟨false, _, _, self_upds ⟨rfl, trivial⟩, hC15.pick [4] (by decide) rfl, H⟩
      · have H := iteF h24 H
        refine WL_no rfl rfl rfl (by rw [h24]; rfl) (lt' rfl) ?_
        refine WL_no rfl rfl rfl (by rw [h24]; rfl) (lt' rfl) ?_
        refine WL_no rfl rfl rfl (by rw [h24]; rfl) (lt' rfl) ?_
        refine WL_no rfl rfl rfl (by rw [h24]; rfl) (lt' rfl) ?_
        refine WL_pickF (v := (.bool false)) (lt' rfl) (by show Value.bool _ = _; rw [h24]) rfl ?_
        refine WL_move (v := (.bool false)) (lt' rfl) rfl ?_
        refine WL_no rfl rfl rfl rfl (lt' rfl) ?_
        refine WL_no rfl rfl rfl rfl (lt' rfl) ?_
        refine WL_no rfl rfl rfl rfl (lt' rfl) ?_
        refine WL_no rfl rfl rfl rfl (lt' rfl) ?_
        refine WL_pickF (v := (.bool false)) (lt' rfl) rfl rfl ?_
        refine WL_assign (v := (.bool false)) (lt' rfl) rfl ?_
        refine WL_nil ?_
        exact kj21 () _ _ ⟨false, _, _, self_upds ⟨rfl, trivial⟩, hC15.pick [4] (by decide) rfl, H⟩
    · have H := iteF h23 H
      refine WL_no rfl rfl rfl (by rw [h23]; rfl) (lt' rfl) ?_
      refine WL_no rfl rfl rfl (by rw [h23]; rfl) (lt' rfl) ?_
      refine WL_no rfl rfl rfl (by rw [h23]; rfl) (lt' rfl) ?_
      refine WL_no rfl rfl rfl (by rw [h23]; rfl) (lt' rfl) ?_
      refine WL_pickF (v := (.bool false)) (lt' rfl) (by show Value.bool _ = _; rw [h23]) rfl ?_
      refine WL_move (v := (.bool false)) (lt' rfl) rfl ?_
      refine WL_no rfl rfl rfl rfl (lt' rfl) ?_
      refine WL_no rfl rfl rfl rfl (lt' rfl) ?_
      refine WL_no rfl rfl rfl rfl (lt' rfl) ?_
      refine WL_no rfl rfl rfl rfl (lt' rfl) ?_
      refine WL_pickF (v := (.bool false)) (lt' rfl) rfl rfl ?_
      refine WL_move (v := (.bool false)) (lt' rfl) rfl ?_
      refine WL_no rfl rfl rfl rfl (lt' rfl) ?_
      refine WL_no rfl rfl rfl rfl (lt' rfl) ?_
      refine WL_no rfl rfl rfl rfl (lt' rfl) ?_
      refine WL_no rfl rfl rfl rfl (lt' rfl) ?_
      refine WL_pickF (v := (.bool false)) (lt' rfl) rfl rfl ?_
      refine WL_assign (v := (.bool false)) (lt' rfl) rfl ?_
      refine WL_nil ?_
      exact kj21 () _ _ ⟨false, _, _, self_upds ⟨rfl, trivial⟩, hC15.pick [4] (by decide) rfl, H⟩
  · rintro - - w20 ⟨x17, ρ0, O19, rfl, hC18, H⟩
    refine W_ret ?_
    obtain rfl := Option.some.inj H
    exact Exists.intro () (And.intro rfl (And.intro hC18.keep trivial))

-- slices.Equal[[]cubbyhole/api.Range,cubbyhole/api.Range]
def F_slices_Equal_api_Range_api_Range_j1 (N : Nat) : Option Bool :=
  some true
def F_slices_Equal_api_Range_api_Range_l1 (N : Nat) (p0 : List ApiRange) (p1 : List ApiRange) : Nat → (Int × Int) → Option Bool
  | 0, _ => none
  | m14 + 1, (x9, x10) =>
    (if (decide ((x10 : Int) < (x9 : Int))) = true then Option.bind (sget p0 x10) fun x19 => Option.bind (sget p1 x10) fun x26 => (if (!(((x19.Lo : Int) == x26.Lo) && ((x19.Hi : Int) == x26.Hi))) = true then some false else (F_slices_Equal_api_Range_api_Range_l1 N p0 p1  m14) (x9, (IntKind.wrap .i64 ((x10 : Int) + (1 : Int))))) else F_slices_Equal_api_Range_api_Range_j1 N   )
def F_slices_Equal_api_Range_api_Range (N : Nat) (p0 : List ApiRange) (p1 : List ApiRange) : Option Bool :=
  (if (((p0.length : Int) : Int) != ((p1.length : Int) : Int)) = true then some false else F_slices_Equal_api_Range_api_Range_l1 N p0 p1  N ((p0.length : Int), 0))
set_option maxRecDepth 100000 in
set_option maxHeartbeats 4000000 in
theorem f51_ok (N : Nat) {O0 : List Nat} {w0 : World} (hO : ∀ b, b ∈ O0 → b < w0.heap.size) (hG : rGlob.rel O0 w0 [] ()) (pa0 : Option Addr) (pc0 : Nat) (p0 : List ApiRange) (ph0 : Rp.rel (Rp.sl rApiRange) O0 w0 [.slice pa0 (List.length p0) pc0] p0) (pa1 : Option Addr) (pc1 : Nat) (p1 : List ApiRange) (ph1 : Rp.rel (Rp.sl rApiRange) O0 w0 [.slice pa1 (List.length p1) pc1] p1) (y : Bool) (H : F_slices_Equal_api_Range_api_Range N p0 p1 = some y) :
    Calls Tryz.prog 51 (List.toArray [(.slice pa0 (List.length p0) pc0), (.slice pa1 (List.length p1) pc1)]) w0 fun e w => ∃ z : Unit, e = .returned (.bool y) ∧ Keep [] w0 w ∧ True := by
  have hNK : ∀ b : Nat, b ∈ ([] : List Nat) → False := by intro b h; cases h
  have hC := ((((Ctx.start hO).imm hG).imm ph0).imm ph1)
  refine calls_of_W (ts := [4]) Tryz.func51 rfl rfl Tryz.ntmps51 (Nat.le_of_ble_eq_true rfl) ?_
  refine W_seq ?_
  refine W_region ?_
  refine WL_assign (v := (.bool false)) (lt' rfl) rfl ?_
  refine WL_nil ?_
  refine W_seq ?_
  refine W_seq ?_
  refine W_region ?_
  refine WL_move (v := (.slice pa0 (List.length p0) pc0)) (lt' rfl) rfl ?_
  refine WL_llen Tryz.underlying27 (lt' rfl) rfl ?_
  refine WL_move (v := (.slice pa1 (List.length p1) pc1)) (lt' rfl) rfl ?_
  refine WL_llen Tryz.underlying27 (lt' rfl) rfl ?_
  refine WL_ineq (a := ((p0.length : Int) : Int)) (b := ((p1.length : Int) : Int)) (lt' rfl) rfl rfl ?_
  refine WL_nil ?_
  refine W_cond (t := (((p0.length : Int) : Int) != ((p1.length : Int) : Int))) rfl (fun h3 => ?_) (fun h3 => ?_)
  · have H := iteT h3 H
    refine W_seq ?_
    refine W_region ?_
    refine WL_assign (v := (.bool false)) (lt' rfl) rfl ?_
    refine WL_nil ?_
    refine W_ret ?_
    obtain rfl := Option.some.inj H
    exact Exists.intro () (And.intro rfl (And.intro hC.keep trivial))
  · have H := iteF h3 H
    refine W_skip ?_
    refine W_joinS Unit (fun (_ : Unit) (ρ : Env) (w : World) => ∃ (ρ0 : Env) (O : List Nat), ρ = upds ρ0 [] ∧ Ctx O0 [] w0 O w [.imm rGlob [] ()] ∧ F_slices_Equal_api_Range_api_Range_j1 N    = some y) (fun K8 kj7 => ?_) ?_
    · skip
      refine W_seq ?_
      refine W_region ?_
      refine WL_move (v := (.slice pa0 (List.length p0) pc0)) (lt' rfl) rfl ?_
      refine WL_llen Tryz.underlying27 (lt' rfl) rfl ?_
      refine WL_move (v := (.int .i64 0)) (lt' rfl) rfl ?_
      refine WL_nil ?_
      refine W_block ?_
      refine W_loop (fun m s => F_slices_Equal_api_Range_api_Range_l1 N p0 p1  m s) (fun (s : Int × Int) (ρ : Env) (w : World) => ∃ (ρ0 : Env) (O : List Nat), ρ = upds ρ0 [(0, (.slice pa0 (List.length p0) pc0)), (1, (.slice pa1 (List.length p1) pc1)), (12, (.int .i64 s.1)), (13, (.int .i64 s.2))] ∧ Ctx O0 [] w0 O w [.imm rGlob [] (), .imm (Rp.sl rApiRange) [.slice pa0 (List.length p0) pc0] p0, .imm (Rp.sl rApiRange) [.slice pa1 (List.length p1) pc1] p1]) N ((p0.length : Int), 0) y (fun _ => rfl) H ⟨_, _, self_upds ⟨rfl, rfl, rfl, rfl, trivial⟩, hC.pick [2, 1, 0] (by decide) rfl⟩ ?_
      clear H
      rintro K15 m14 ⟨x9, x10⟩ - w13 ih16 H ⟨ρ0, O12, rfl, hC11⟩
      refine W_seq ?_
      refine W_region ?_
      refine WL_ilss (a := (x10 : Int)) (b := (x9 : Int)) (lt' rfl) rfl rfl ?_
      refine WL_nil ?_
      refine W_seq ?_
      refine W_cond (t := (decide ((x10 : Int) < (x9 : Int)))) rfl (fun h18 => ?_) (fun h18 => ?_)
      · have H := iteT h18 H
        refine W_skip ?_
        refine W_seq ?_
        refine W_block ?_
        refine W_seq ?_
        refine W_region ?_
        refine WL_move (v := (.int .i64 x10)) (lt' rfl) rfl ?_
        refine WL_assign (v := (.int .i64 x10)) (lt' rfl) rfl ?_
        refine WL_nil ?_
        refine W_seq ?_
        obtain ⟨x19, h20, H⟩ := bindE H
        obtain ⟨x26, h27, H⟩ := bindE H
        refine W_drawnF 9 (fun (S : Nat → Bool) (ρ : Env) (w : World) => ∃ (O : List Nat) (X : List Fact), Ctx O0 [] w0 O w (X ++ [.imm rGlob [] (), .imm (Rp.sl rApiRange) [.slice pa0 (List.length p0) pc0] p0, .imm (Rp.sl rApiRange) [.slice pa1 (List.length p1) pc1] p1]) ∧ (ρ 0 = (.slice pa0 (List.length p0) pc0) ∧ ρ 1 = (.slice pa1 (List.length p1) pc1) ∧ ρ 5 = (.int .i64 x10) ∧ ρ 12 = (.int .i64 x9) ∧ ρ 13 = (.int .i64 x10)) ∧ (S 0 = true → ρ 16 = (.slice pa0 (List.length p0) pc0)) ∧ (S 1 = true → ρ 17 = (.int .i64 x10)) ∧ (S 2 = true → ∃ qad33 : Addr, ρ 18 = (.pointer (some qad33)) ∧ (.elem rApiRange qad33 x19 : Fact) ∈ X) ∧ (S 3 = true → ρ 19 = (.agg (List.toArray [(.int .u32 x19.Lo), (.int .u32 x19.Hi)]))) ∧ (S 4 = true → ρ 20 = (.slice pa1 (List.length p1) pc1)) ∧ (S 5 = true → ρ 21 = (.int .i64 x10)) ∧ (S 6 = true → ∃ qad35 : Addr, ρ 22 = (.pointer (some qad35)) ∧ (.elem rApiRange qad35 x26 : Fact) ∈ X) ∧ (S 7 = true → ρ 23 = (.agg (List.toArray [(.int .u32 x26.Lo), (.int .u32 x26.Hi)]))) ∧ (S 8 = true → ρ 24 = (.bool (!(((x19.Lo : Int) == x26.Lo) && ((x19.Hi : Int) == x26.Hi)))))) (by kernel_rfl) (by kernel_rfl) (by kernel_rfl) (Nat.le_of_ble_eq_true rfl) ⟨_, [], hC11.drewC, ⟨rfl, rfl, rfl, rfl, rfl⟩, fun h => Bool.noConfusion h, fun h => Bool.noConfusion h, fun h => Bool.noConfusion h, fun h => Bool.noConfusion h, fun h => Bool.noConfusion h, fun h => Bool.noConfusion h, fun h => Bool.noConfusion h, fun h => Bool.noConfusion h, fun h => Bool.noConfusion h⟩ ?_ ?_
        · intro K37 S ρ wd i hi hSi hpre39 hI hK38 o ho
          obtain ⟨Od, X, hCd, ⟨hb0, hb1, hb5, hb12, hb13⟩, hp0, hp1, hp2, hp3, hp4, hp5, hp6, hp7, hp8⟩ := hI
          obtain rfl | rfl | rfl | rfl | rfl | rfl | rfl | rfl | rfl : i = 0 ∨ i = 1 ∨ i = 2 ∨ i = 3 ∨ i = 4 ∨ i = 5 ∨ i = 6 ∨ i = 7 ∨ i = 8 := by omega
          · obtain rfl := Option.some.inj ho
            obtain ⟨ρ1, rfl⟩ : ∃ ρ1, ρ = upds ρ1 [(0, (.slice pa0 (List.length p0) pc0)), (1, (.slice pa1 (List.length p1) pc1)), (5, (.int .i64 x10)), (12, (.int .i64 x9)), (13, (.int .i64 x10))] := ⟨ρ, self_upds ⟨hb0, hb1, hb5, hb12, hb13, trivial⟩⟩
            refine WL_move (v := (.slice pa0 (List.length p0) pc0)) (lt' rfl) rfl ?_
            refine WL_nil ?_
            exact hK38 _ _ ⟨_, X, hCd, ⟨rfl, rfl, rfl, rfl, rfl⟩, (fun _ => rfl), hp1, hp2, hp3, hp4, hp5, hp6, hp7, hp8⟩
          · obtain rfl := Option.some.inj ho
            obtain ⟨ρ1, rfl⟩ : ∃ ρ1, ρ = upds ρ1 [(0, (.slice pa0 (List.length p0) pc0)), (1, (.slice pa1 (List.length p1) pc1)), (5, (.int .i64 x10)), (12, (.int .i64 x9)), (13, (.int .i64 x10))] := ⟨ρ, self_upds ⟨hb0, hb1, hb5, hb12, hb13, trivial⟩⟩
            refine WL_move (v := (.int .i64 x10)) (lt' rfl) rfl ?_
            refine WL_nil ?_
            exact hK38 _ _ ⟨_, X, hCd, ⟨rfl, rfl, rfl, rfl, rfl⟩, hp0, (fun _ => rfl), hp2, hp3, hp4, hp5, hp6, hp7, hp8⟩
          · obtain rfl := Option.some.inj ho
            have he0 := hp0 (hpre39 0 rfl)
            have he1 := hp1 (hpre39 1 rfl)
            obtain ⟨ρ1, rfl⟩ : ∃ ρ1, ρ = upds ρ1 [(0, (.slice pa0 (List.length p0) pc0)), (1, (.slice pa1 (List.length p1) pc1)), (5, (.int .i64 x10)), (12, (.int .i64 x9)), (13, (.int .i64 x10)), (16, (.slice pa0 (List.length p0) pc0)), (17, (.int .i64 x10))] := ⟨ρ, self_upds ⟨hb0, hb1, hb5, hb12, hb13, he0, he1, trivial⟩⟩
            refine WL_indexAddr (r := rApiRange) (k := .i64) (i := x10) (l := p0) (xx := x19) (hCd.immAt (i := List.length X + 1) (base_at _ rfl)) h20 Tryz.underlying27 Tryz.sizeOf68 (lt' rfl) rfl rfl (fun ad21 hE22 => ?_)
            have hC23 := hCd.elem hE22
            refine WL_nil ?_
            exact hK38 _ _ ⟨_, (_ :: X), hC23, ⟨rfl, rfl, rfl, rfl, rfl⟩, hp0, hp1, (fun _ => ⟨ad21, rfl, List.mem_cons_self⟩), hp3, hp4, hp5, (fun h => by obtain ⟨qad35, e1, m0⟩ := hp6 h; exact ⟨qad35, e1, (List.mem_cons_of_mem _ m0)⟩), hp7, hp8⟩
          · obtain rfl := Option.some.inj ho
            obtain ⟨qad33, he2, hm2_0⟩ := hp2 (hpre39 2 rfl)
            obtain ⟨ix0, hix0⟩ := at_mem (Lb := [.imm rGlob [] (), .imm (Rp.sl rApiRange) [.slice pa0 (List.length p0) pc0] p0, .imm (Rp.sl rApiRange) [.slice pa1 (List.length p1) pc1] p1]) hm2_0
            obtain ⟨ρ1, rfl⟩ : ∃ ρ1, ρ = upds ρ1 [(0, (.slice pa0 (List.length p0) pc0)), (1, (.slice pa1 (List.length p1) pc1)), (5, (.int .i64 x10)), (12, (.int .i64 x9)), (13, (.int .i64 x10)), (18, (.pointer (some qad33)))] := ⟨ρ, self_upds ⟨hb0, hb1, hb5, hb12, hb13, he2, trivial⟩⟩
            refine WL_loadA (hCd.at hix0) Tryz.isAgg68 Tryz.sizeOf68 (lt' rfl) rfl (fun cs23 hv24 => ?_)
            obtain rfl := rApiRange_shape hv24
            refine WL_nil ?_
            exact hK38 _ _ ⟨_, X, hCd, ⟨rfl, rfl, rfl, rfl, rfl⟩, hp0, hp1, hp2, (fun _ => rfl), hp4, hp5, hp6, hp7, hp8⟩
          · obtain rfl := Option.some.inj ho
            obtain ⟨ρ1, rfl⟩ : ∃ ρ1, ρ = upds ρ1 [(0, (.slice pa0 (List.length p0) pc0)), (1, (.slice pa1 (List.length p1) pc1)), (5, (.int .i64 x10)), (12, (.int .i64 x9)), (13, (.int .i64 x10))] := ⟨ρ, self_upds ⟨hb0, hb1, hb5, hb12, hb13, trivial⟩⟩
            refine WL_move (v := (.slice pa1 (List.length p1) pc1)) (lt' rfl) rfl ?_
            refine WL_nil ?_
            exact hK38 _ _ ⟨_, X, hCd, ⟨rfl, rfl, rfl, rfl, rfl⟩, hp0, hp1, hp2, hp3, (fun _ => rfl), hp5, hp6, hp7, hp8⟩
          · obtain rfl := Option.some.inj ho
            obtain ⟨ρ1, rfl⟩ : ∃ ρ1, ρ = upds ρ1 [(0, (.slice pa0 (List.length p0) pc0)), (1, (.slice pa1 (List.length p1) pc1)), (5, (.int .i64 x10)), (12, (.int .i64 x9)), (13, (.int .i64 x10))] := ⟨ρ, self_upds ⟨hb0, hb1, hb5, hb12, hb13, trivial⟩⟩
            refine WL_move (v := (.int .i64 x10)) (lt' rfl) rfl ?_
            refine WL_nil ?_
            exact hK38 _ _ ⟨_, X, hCd, ⟨rfl, rfl, rfl, rfl, rfl⟩, hp0, hp1, hp2, hp3, hp4, (fun _ => rfl), hp6, hp7, hp8⟩
          · obtain rfl := Option.some.inj ho
            have he4 := hp4 (hpre39 4 rfl)
            have he5 := hp5 (hpre39 5 rfl)
            obtain ⟨ρ1, rfl⟩ : ∃ ρ1, ρ = upds ρ1 [(0, (.slice pa0 (List.length p0) pc0)), (1, (.slice pa1 (List.length p1) pc1)), (5, (.int .i64 x10)), (12, (.int .i64 x9)), (13, (.int .i64 x10)), (20, (.slice pa1 (List.length p1) pc1)), (21, (.int .i64 x10))] := ⟨ρ, self_upds ⟨hb0, hb1, hb5, hb12, hb13, he4, he5, trivial⟩⟩
            refine WL_indexAddr (r := rApiRange) (k := .i64) (i := x10) (l := p1) (xx := x26) (hCd.immAt (i := List.length X + 2) (base_at _ rfl)) h27 Tryz.underlying27 Tryz.sizeOf68 (lt' rfl) rfl rfl (fun ad28 hE29 => ?_)
            have hC30 := hCd.elem hE29
            refine WL_nil ?_
            exact hK38 _ _ ⟨_, (_ :: X), hC30, ⟨rfl, rfl, rfl, rfl, rfl⟩, hp0, hp1, (fun h => by obtain ⟨qad33, e1, m0⟩ := hp2 h; exact ⟨qad33, e1, (List.mem_cons_of_mem _ m0)⟩), hp3, hp4, hp5, (fun _ => ⟨ad28, rfl, List.mem_cons_self⟩), hp7, hp8⟩
          · obtain rfl := Option.some.inj ho
            obtain ⟨qad35, he6, hm6_0⟩ := hp6 (hpre39 6 rfl)
            obtain ⟨ix0, hix0⟩ := at_mem (Lb := [.imm rGlob [] (), .imm (Rp.sl rApiRange) [.slice pa0 (List.length p0) pc0] p0, .imm (Rp.sl rApiRange) [.slice pa1 (List.length p1) pc1] p1]) hm6_0
            obtain ⟨ρ1, rfl⟩ : ∃ ρ1, ρ = upds ρ1 [(0, (.slice pa0 (List.length p0) pc0)), (1, (.slice pa1 (List.length p1) pc1)), (5, (.int .i64 x10)), (12, (.int .i64 x9)), (13, (.int .i64 x10)), (22, (.pointer (some qad35)))] := ⟨ρ, self_upds ⟨hb0, hb1, hb5, hb12, hb13, he6, trivial⟩⟩
            refine WL_loadA (hCd.at hix0) Tryz.isAgg68 Tryz.sizeOf68 (lt' rfl) rfl (fun cs30 hv31 => ?_)
            obtain rfl := rApiRange_shape hv31
            refine WL_nil ?_
            exact hK38 _ _ ⟨_, X, hCd, ⟨rfl, rfl, rfl, rfl, rfl⟩, hp0, hp1, hp2, hp3, hp4, hp5, hp6, (fun _ => rfl), hp8⟩
          · obtain rfl := Option.some.inj ho
            have he3 := hp3 (hpre39 3 rfl)
            have he7 := hp7 (hpre39 7 rfl)
            obtain ⟨ρ1, rfl⟩ : ∃ ρ1, ρ = upds ρ1 [(0, (.slice pa0 (List.length p0) pc0)), (1, (.slice pa1 (List.length p1) pc1)), (5, (.int .i64 x10)), (12, (.int .i64 x9)), (13, (.int .i64 x10)), (19, (.agg (List.toArray [(.int .u32 x19.Lo), (.int .u32 x19.Hi)]))), (23, (.agg (List.toArray [(.int .u32 x26.Lo), (.int .u32 x26.Hi)])))] := ⟨ρ, self_upds ⟨hb0, hb1, hb5, hb12, hb13, he3, he7, trivial⟩⟩
            refine WL_agneq (xs := (List.toArray [(.int .u32 x19.Lo), (.int .u32 x19.Hi)])) (ys := (List.toArray [(.int .u32 x26.Lo), (.int .u32 x26.Hi)])) (b := (((x19.Lo : Int) == x26.Lo) && ((x19.Hi : Int) == x26.Hi))) (by kernel_rfl) (lt' rfl) rfl rfl (eqT68 x19.Lo x19.Hi x26.Lo x26.Hi _) ?_
            refine WL_nil ?_
            exact hK38 _ _ ⟨_, X, hCd, ⟨rfl, rfl, rfl, rfl, rfl⟩, hp0, hp1, hp2, hp3, hp4, hp5, hp6, hp7, (fun _ => rfl)⟩
        · intro S40 ρ w43 hall41 hI
          obtain ⟨O42, X, hC44, ⟨hb0, hb1, hb5, hb12, hb13⟩, hp0, hp1, hp2, hp3, hp4, hp5, hp6, hp7, hp8⟩ := hI
          have he8 := hp8 (hall41 8 (by decide))
          obtain ⟨ρ1, rfl⟩ : ∃ ρ1, ρ = upds ρ1 [(0, (.slice pa0 (List.length p0) pc0)), (1, (.slice pa1 (List.length p1) pc1)), (5, (.int .i64 x10)), (12, (.int .i64 x9)), (13, (.int .i64 x10)), (24, (.bool (!(((x19.Lo : Int) == x26.Lo) && ((x19.Hi : Int) == x26.Hi)))))] := ⟨ρ, self_upds ⟨hb0, hb1, hb5, hb12, hb13, he8, trivial⟩⟩
          have hC45 := hC44.ofX (Ln := []) (by intro f hf; cases hf) (by simp [Fact.own])
          refine WL_nil ?_
          refine W_cond (t := (!(((x19.Lo : Int) == x26.Lo) && ((x19.Hi : Int) == x26.Hi)))) rfl (fun h46 => ?_) (fun h46 => ?_)
          · have H := iteT h46 H
            refine W_seq ?_
            refine W_region ?_
            refine WL_assign (v := (.bool false)) (lt' rfl) rfl ?_
            refine WL_nil ?_
            refine W_ret ?_
            obtain rfl := Option.some.inj H
            exact Exists.intro () (And.intro rfl (And.intro hC45.keep trivial))
          · have H := iteF h46 H
            refine W_skip ?_
            refine W_region ?_
            refine WL_iadd (a := (x10 : Int)) (b := (1 : Int)) (lt' rfl) rfl rfl ?_
            refine WL_move (v := (.int .i64 (IntKind.wrap .i64 ((x10 : Int) + (1 : Int))))) (lt' rfl) rfl ?_
            refine WL_nil ?_
            exact ih16 (x9, (IntKind.wrap .i64 ((x10 : Int) + (1 : Int)))) _ _ H ⟨_, _, self_upds ⟨rfl, rfl, rfl, rfl, trivial⟩, hC45.pick [0, 1, 2] (by decide) rfl⟩
      · have H := iteF h18 H
        refine W_exit ?_
        exact kj7 () _ _ ⟨_, _, self_upds trivial, hC11.pick [0] (by decide) rfl, H⟩
    · rintro - - w6 ⟨ρ0, O5, rfl, hC4, H⟩
      refine W_seq ?_
      refine W_region ?_
      refine WL_assign (v := (.bool true)) (lt' rfl) rfl ?_
      refine WL_nil ?_
      refine W_ret ?_
      obtain rfl := Option.some.inj H
      exact Exists.intro () (And.intro rfl (And.intro hC4.keep trivial))

-- cubbyhole/command.Same
def F_command_Same_j1 (N : Nat) (x33 : Bool) : Option Bool :=
  some x33
def F_command_Same (N : Nat) (p0 : ApiCommand) (p1 : ApiCommand) : Option Bool :=
  (if ((p0.Tag : List UInt8) == p1.Tag) = true then (if ((p0.Kind : Int) == (p1.Kind : Int)) = true then (if ((p0.Mailbox : List UInt8) == p1.Mailbox) = true then Option.bind (F_slices_Equal_api_Range_api_Range N p0.Set p1.Set) fun y42 => (if y42 = true then (if ((p0.Items : Int) == (p1.Items : Int)) = true then (if ((p0.Mode : Int) == (p1.Mode : Int)) = true then (if (p0.Silent == p1.Silent) = true then (if ((p0.Flags : UInt8) == (p1.Flags : UInt8)) = true then F_command_Same_j1 N   ((p0.Data : List UInt8) == p1.Data) else F_command_Same_j1 N   false) else F_command_Same_j1 N   false) else F_command_Same_j1 N   false) else F_command_Same_j1 N   false) else F_command_Same_j1 N   false) else F_command_Same_j1 N   false) else F_command_Same_j1 N   false) else F_command_Same_j1 N   false)
set_option maxRecDepth 100000 in
set_option maxHeartbeats 4000000 in
theorem f22_ok (N : Nat) {O0 : List Nat} {w0 : World} (hO : ∀ b, b ∈ O0 → b < w0.heap.size) (hG : rGlob.rel O0 w0 [] ()) (pcs0 : List Value) (p0 : ApiCommand) (ph0 : Rp.rel rApiCommand O0 w0 pcs0 p0) (pcs1 : List Value) (p1 : ApiCommand) (ph1 : Rp.rel rApiCommand O0 w0 pcs1 p1) (y : Bool) (H : F_command_Same N p0 p1 = some y) :
    Calls Tryz.prog 22 (List.toArray [(.agg (List.toArray pcs0)), (.agg (List.toArray pcs1))]) w0 fun e w => ∃ z : Unit, e = .returned (.bool y) ∧ Keep [] w0 w ∧ True := by
  have hNK : ∀ b : Nat, b ∈ ([] : List Nat) → False := by intro b h; cases h
  have hC := ((((Ctx.start hO).imm hG).imm ph0).imm ph1)
  refine calls_of_W (ts := [4]) Tryz.func22 rfl rfl Tryz.ntmps22 (Nat.le_of_ble_eq_true rfl) ?_
  refine W_seq ?_
  refine W_region ?_
  have hx9 := hC.immAt (i := 1) rfl
  obtain ⟨a3, c4, a6, c7, rfl, hs5, hs8⟩ := rApiCommand_shape hx9
  have hC10 := hC.imm hs5
  have hC12 := hC10.imm hs8
  refine WL_box (cells := [(vstr p0.Tag), (.int .i64 p0.Kind), (vstr p0.Mailbox), (.slice a3 (List.length p0.Set) c4), (.int .i64 p0.Items), (.int .i64 p0.Mode), (.bool p0.Silent), (.int .u8 ((UInt8.toNat p0.Flags : Nat) : Int)), (.slice a6 (List.length p0.Data) c7)]) hC12 (lt' rfl) rfl rfl (fun b14 w15 hC16 => ?_)
  have hx24 := hC16.immAt (i := 3) rfl
  obtain ⟨a18, c19, a21, c22, rfl, hs20, hs23⟩ := rApiCommand_shape hx24
  have hC25 := hC16.imm hs20
  have hC27 := hC25.imm hs23
  refine WL_box (cells := [(vstr p1.Tag), (.int .i64 p1.Kind), (vstr p1.Mailbox), (.slice a18 (List.length p1.Set) c19), (.int .i64 p1.Items), (.int .i64 p1.Mode), (.bool p1.Silent), (.int .u8 ((UInt8.toNat p1.Flags : Nat) : Int)), (.slice a21 (List.length p1.Data) c22)]) hC27 (lt' rfl) rfl rfl (fun b29 w30 hC31 => ?_)
  refine WL_assign (v := (.bool false)) (lt' rfl) rfl ?_
  refine WL_nil ?_
  refine W_joinS Unit (fun (_ : Unit) (ρ : Env) (w : World) => ∃ (x33 : Bool) (ρ0 : Env) (O : List Nat), ρ = upds ρ0 [(4, (.bool x33))] ∧ Ctx O0 [] w0 O w [.imm rGlob [] ()] ∧ F_command_Same_j1 N   x33 = some y) (fun K38 kj37 => ?_) ?_
  · skip
    refine W_region ?_
    refine WL_fieldBox' (off' := 0) Tryz.underlying31 rfl Tryz.sizeOf9 rfl (lt' rfl) rfl ?_
    refine WL_loadBox (v := (vstr p0.Tag)) hC31 (i := 3) rfl rfl Tryz.isAgg9 (lt' rfl) rfl ?_
    refine WL_fieldBox' (off' := 0) Tryz.underlying31 rfl Tryz.sizeOf9 rfl (lt' rfl) rfl ?_
    refine WL_loadBox (v := (vstr p1.Tag)) hC31 (i := 0) rfl rfl Tryz.isAgg9 (lt' rfl) rfl ?_
    refine WL_seql (a := p0.Tag) (b := p1.Tag) (lt' rfl) rfl rfl ?_
    refine WL_move (v := (.bool ((p0.Tag : List UInt8) == p1.Tag))) (lt' rfl) rfl ?_
    rcases Bool.eq_false_or_eq_true ((p0.Tag : List UInt8) == p1.Tag) with h39 | h39
    · have H := iteT h39 H
      refine WL_yes rfl rfl rfl h39 ?_
      refine WL_fieldBox' (off' := 1) Tryz.underlying31 rfl Tryz.sizeOf3 rfl (lt' rfl) rfl ?_
      refine WL_yes rfl rfl rfl h39 ?_
      refine WL_loadBox (v := (.int .i64 p0.Kind)) hC31 (i := 3) rfl rfl Tryz.isAgg3 (lt' rfl) rfl ?_
      refine WL_yes rfl rfl rfl h39 ?_
      refine WL_fieldBox' (off' := 1) Tryz.underlying31 rfl Tryz.sizeOf3 rfl (lt' rfl) rfl ?_
      refine WL_yes rfl rfl rfl h39 ?_
      refine WL_loadBox (v := (.int .i64 p1.Kind)) hC31 (i := 0) rfl rfl Tryz.isAgg3 (lt' rfl) rfl ?_
      refine WL_yes rfl rfl rfl h39 ?_
      refine WL_ieql (a := (p0.Kind : Int)) (b := (p1.Kind : Int)) (lt' rfl) rfl rfl ?_
      refine WL_pickT (v := (.bool ((p0.Kind : Int) == (p1.Kind : Int)))) (lt' rfl) (by show Value.bool _ = _; rw [h39]) rfl ?_
      refine WL_move (v := (.bool ((p0.Kind : Int) == (p1.Kind : Int)))) (lt' rfl) rfl ?_
      rcases Bool.eq_false_or_eq_true ((p0.Kind : Int) == (p1.Kind : Int)) with h40 | h40
      · have H := iteT h40 H
        refine WL_yes rfl rfl rfl h40 ?_
        refine WL_fieldBox' (off' := 2) Tryz.underlying31 rfl Tryz.sizeOf9 rfl (lt' rfl) rfl ?_
        refine WL_yes rfl rfl rfl h40 ?_
        refine WL_loadBox (v := (vstr p0.Mailbox)) hC31 (i := 3) rfl rfl Tryz.isAgg9 (lt' rfl) rfl ?_
        refine WL_yes rfl rfl rfl h40 ?_
        refine WL_fieldBox' (off' := 2) Tryz.underlying31 rfl Tryz.sizeOf9 rfl (lt' rfl) rfl ?_
        refine WL_yes rfl rfl rfl h40 ?_
        refine WL_loadBox (v := (vstr p1.Mailbox)) hC31 (i := 0) rfl rfl Tryz.isAgg9 (lt' rfl) rfl ?_
        refine WL_yes rfl rfl rfl h40 ?_
        refine WL_seql (a := p0.Mailbox) (b := p1.Mailbox) (lt' rfl) rfl rfl ?_
        refine WL_pickT (v := (.bool ((p0.Mailbox : List UInt8) == p1.Mailbox))) (lt' rfl) (by show Value.bool _ = _; rw [h40]) rfl ?_
        refine WL_move (v := (.bool ((p0.Mailbox : List UInt8) == p1.Mailbox))) (lt' rfl) rfl ?_
        rcases Bool.eq_false_or_eq_true ((p0.Mailbox : List UInt8) == p1.Mailbox) with h41 | h41
        · have H := iteT h41 H
          refine WL_yes rfl rfl rfl h41 ?_
          refine WL_fieldBox' (off' := 3) Tryz.underlying31 rfl Tryz.sizeOf27 rfl (lt' rfl) rfl ?_
          refine WL_yes rfl rfl rfl h41 ?_
          refine WL_loadBox (v := (.slice a3 (List.length p0.Set) c4)) hC31 (i := 3) rfl rfl Tryz.isAgg27 (lt' rfl) rfl ?_
          refine WL_yes rfl rfl rfl h41 ?_
          refine WL_fieldBox' (off' := 3) Tryz.underlying31 rfl Tryz.sizeOf27 rfl (lt' rfl) rfl ?_
          refine WL_yes rfl rfl rfl h41 ?_
          refine WL_loadBox (v := (.slice a18 (List.length p1.Set) c19)) hC31 (i := 0) rfl rfl Tryz.isAgg27 (lt' rfl) rfl ?_
          refine WL_yes rfl rfl rfl h41 ?_
          obtain ⟨y42, h43, H⟩ := bindE H
          refine WL_call (cap := []) en51 (lt' rfl) rfl rfl (f51_ok N hC31.lt (hC31.immAt (i := 8) rfl) a3 c4 p0.Set (hC31.immAt (i := 5) rfl) a18 c19 p1.Set (hC31.immAt (i := 2) rfl) y42 h43) ?_
          rintro _ w44 ⟨hk45, -⟩
          have hC46 := hC31.call hk45
          refine WL_pickT (v := (.bool y42)) (lt' rfl) (by show Value.bool _ = _; rw [h41]) rfl ?_
          refine WL_move (v := (.bool y42)) (lt' rfl) rfl ?_
          rcases Bool.eq_false_or_eq_true y42 with h47 | h47
          · have H := iteT h47 H
            refine WL_yes rfl rfl rfl h47 ?_
            refine WL_fieldBox' (off' := 4) Tryz.underlying31 rfl Tryz.sizeOf3 rfl (lt' rfl) rfl ?_
            refine WL_yes rfl rfl rfl h47 ?_
            refine WL_loadBox (v := (.int .i64 p0.Items)) hC46 (i := 3) rfl rfl Tryz.isAgg3 (lt' rfl) rfl ?_
            refine WL_yes rfl rfl rfl h47 ?_
            refine WL_fieldBox' (off' := 4) Tryz.underlying31 rfl Tryz.sizeOf3 rfl (lt' rfl) rfl ?_
            refine WL_yes rfl rfl rfl h47 ?_
            refine WL_loadBox (v := (.int .i64 p1.Items)) hC46 (i := 0) rfl rfl Tryz.isAgg3 (lt' rfl) rfl ?_
            refine WL_yes rfl rfl rfl h47 ?_
            refine WL_ieql (a := (p0.Items : Int)) (b := (p1.Items : Int)) (lt' rfl) rfl rfl ?_
            refine WL_pickT (v := (.bool ((p0.Items : Int) == (p1.Items : Int)))) (lt' rfl) (by show Value.bool _ = _; rw [h47]) rfl ?_
            refine WL_move (v := (.bool ((p0.Items : Int) == (p1.Items : Int)))) (lt' rfl) rfl ?_
            rcases Bool.eq_false_or_eq_true ((p0.Items : Int) == (p1.Items : Int)) with h48 | h48
            · have H := iteT h48 H
              refine WL_yes rfl rfl rfl h48 ?_
              refine WL_fieldBox' (off' := 5) Tryz.underlying31 rfl Tryz.sizeOf3 rfl (lt' rfl) rfl ?_
              refine WL_yes rfl rfl rfl h48 ?_
              refine WL_loadBox (v := (.int .i64 p0.Mode)) hC46 (i := 3) rfl rfl Tryz.isAgg3 (lt' rfl) rfl ?_
              refine WL_yes rfl rfl rfl h48 ?_
              refine WL_fieldBox' (off' := 5) Tryz.underlying31 rfl Tryz.sizeOf3 rfl (lt' rfl) rfl ?_
              refine WL_yes rfl rfl rfl h48 ?_
              refine WL_loadBox (v := (.int .i64 p1.Mode)) hC46 (i := 0) rfl rfl Tryz.isAgg3 (lt' rfl) rfl ?_
              refine WL_yes rfl rfl rfl h48 ?_
              refine WL_ieql (a := (p0.Mode : Int)) (b := (p1.Mode : Int)) (lt' rfl) rfl rfl ?_
              refine WL_pickT (v := (.bool ((p0.Mode : Int) == (p1.Mode : Int)))) (lt' rfl) (by show Value.bool _ = _; rw [h48]) rfl ?_
              refine WL_move (v := (.bool ((p0.Mode : Int) == (p1.Mode : Int)))) (lt' rfl) rfl ?_
              rcases Bool.eq_false_or_eq_true ((p0.Mode : Int) == (p1.Mode : Int)) with h49 | h49
              · have H := iteT h49 H
                refine WL_yes rfl rfl rfl h49 ?_
                refine WL_fieldBox' (off' := 6) Tryz.underlying31 rfl Tryz.sizeOf4 rfl (lt' rfl) rfl ?_
                refine WL_yes rfl rfl rfl h49 ?_
                refine WL_loadBox (v := (.bool p0.Silent)) hC46 (i := 3) rfl rfl Tryz.isAgg4 (lt' rfl) rfl ?_
                refine WL_yes rfl rfl rfl h49 ?_
                refine WL_fieldBox' (off' := 6) Tryz.underlying31 rfl Tryz.sizeOf4 rfl (lt' rfl) rfl ?_
                refine WL_yes rfl rfl rfl h49 ?_
                refine WL_loadBox (v := (.bool p1.Silent)) hC46 (i := 0) rfl rfl Tryz.isAgg4 (lt' rfl) rfl ?_
                refine WL_yes rfl rfl rfl h49 ?_
                refine WL_teql (a := p0.Silent) (b := p1.Silent) Tryz.underlying4 (lt' rfl) rfl rfl ?_
                refine WL_pickT (v := (.bool (p0.Silent == p1.Silent))) (lt' rfl) (by show Value.bool _ = _; rw [h49]) rfl ?_
                refine WL_move (v := (.bool (p0.Silent == p1.Silent))) (lt' rfl) rfl ?_
                rcases Bool.eq_false_or_eq_true (p0.Silent == p1.Silent) with h50 | h50
                · have H := iteT h50 H
                  refine WL_yes rfl rfl rfl h50 ?_
                  refine WL_fieldBox' (off' := 7) Tryz.underlying31 rfl Tryz.sizeOf28 rfl (lt' rfl) rfl ?_
                  refine WL_yes rfl rfl rfl h50 ?_
                  refine WL_loadBox (v := (.int .u8 ((UInt8.toNat p0.Flags : Nat) : Int))) hC46 (i := 3) rfl rfl Tryz.isAgg28 (lt' rfl) rfl ?_
                  refine WL_yes rfl rfl rfl h50 ?_
                  refine WL_fieldBox' (off' := 7) Tryz.underlying31 rfl Tryz.sizeOf28 rfl (lt' rfl) rfl ?_
                  refine WL_yes rfl rfl rfl h50 ?_
                  refine WL_loadBox (v := (.int .u8 ((UInt8.toNat p1.Flags : Nat) : Int))) hC46 (i := 0) rfl rfl Tryz.isAgg28 (lt' rfl) rfl ?_
                  refine WL_yes rfl rfl rfl h50 ?_
                  refine WL_beql (a := (p0.Flags : UInt8)) (b := (p1.Flags : UInt8)) (lt' rfl) rfl rfl ?_
                  refine WL_pickT (v := (.bool ((p0.Flags : UInt8) == (p1.Flags : UInt8)))) (lt' rfl) (by show Value.bool _ = _; rw [h50]) rfl ?_
                  refine WL_move (v := (.bool ((p0.Flags : UInt8) == (p1.Flags : UInt8)))) (lt' rfl) rfl ?_
                  rcases Bool.eq_false_or_eq_true ((p0.Flags : UInt8) == (p1.Flags : UInt8)) with h51 | h51
                  · have H := iteT h51 H
                    refine WL_yes rfl rfl rfl h51 ?_
                    refine WL_fieldBox' (off' := 8) Tryz.underlying31 rfl Tryz.sizeOf29 rfl (lt' rfl) rfl ?_
                    refine WL_yes rfl rfl rfl h51 ?_
                    refine WL_loadBox (v := (.slice a6 (List.length p0.Data) c7)) hC46 (i := 3) rfl rfl Tryz.isAgg29 (lt' rfl) rfl ?_
                    refine WL_yes rfl rfl rfl h51 ?_
                    refine WL_bytesStr (s := p0.Data) (hC46.immAt (i := 4) rfl) Tryz.underlying29 Tryz.underlying5 Tryz.underlying9 (lt' rfl) rfl ?_
                    refine WL_yes rfl rfl rfl h51 ?_
                    refine WL_fieldBox' (off' := 8) Tryz.underlying31 rfl Tryz.sizeOf29 rfl (lt' rfl) rfl ?_
                    refine WL_yes rfl rfl rfl h51 ?_
                    refine WL_loadBox (v := (.slice a21 (List.length p1.Data) c22)) hC46 (i := 0) rfl rfl Tryz.isAgg29 (lt' rfl) rfl ?_
                    refine WL_yes rfl rfl rfl h51 ?_
                    refine WL_bytesStr (s := p1.Data) (hC46.immAt (i := 1) rfl) Tryz.underlying29 Tryz.underlying5 Tryz.underlying9 (lt' rfl) rfl ?_
                    refine WL_yes rfl rfl rfl h51 ?_
                    refine WL_seql (a := p0.Data) (b := p1.Data) (lt' rfl) rfl rfl ?_
                    refine WL_pickT (v := (.bool ((p0.Data : List UInt8) == p1.Data))) (lt' rfl) (by show Value.bool _ = _; rw [h51]) rfl ?_
                    refine WL_assign (v := (.bool ((p0.Data : List UInt8) == p1.Data))) (lt' rfl) rfl ?_
                    refine WL_nil ?_
                    exact kj37 () _ _ ⟨((p0.Data : List UInt8) == p1.Data), _, _, self_upds ⟨rfl, trivial⟩, hC46.pick [8] (by decide) rfl, H⟩
                  · have H := iteF h51 H
                    refine WL_no rfl rfl rfl (by rw [h51]; rfl) (lt' rfl) ?_
                    refine WL_no rfl rfl rfl (by rw [h51]; rfl) (lt' rfl) ?_
                    refine WL_no rfl rfl rfl (by rw [h51]; rfl) (lt' rfl) ?_
                    refine WL_no rfl rfl rfl (by rw [h51]; rfl) (lt' rfl) ?_
                    refine WL_no rfl rfl rfl (by rw [h51]; rfl) (lt' rfl) ?_
                    refine WL_no rfl rfl rfl (by rw [h51]; rfl) (lt' rfl) ?_
                    refine WL_no rfl rfl rfl (by rw [h51]; rfl) (lt' rfl) ?_
                    refine WL_pickF (v := (.bool false)) (lt' rfl) (by show Value.bool _ = _; rw [h51]) rfl ?_
                    refine WL_assign (v := (.bool false)) (lt' rfl) rfl ?_
                    refine WL_nil ?_
                    exact kj37 () _ _ ⟨false, _, _, self_upds ⟨rfl, trivial⟩, hC46.pick [8] (by decide) rfl, H⟩
                · have H := iteF h50 H
                  refine WL_no rfl rfl rfl (by rw [h50]; rfl) (lt' rfl) ?_
                  refine WL_no rfl rfl rfl (by rw [h50]; rfl) (lt' rfl) ?_
                  refine WL_no rfl rfl rfl (by rw [h50]; rfl) (lt' rfl) ?_
                  refine WL_no rfl rfl rfl (by rw [h50]; rfl) (lt' rfl) ?_
                  refine WL_no rfl rfl rfl (by rw [h50]; rfl) (lt' rfl) ?_
                  refine WL_pickF (v := (.bool false)) (lt' rfl) (by show Value.bool _ = _; rw [h50]) rfl ?_
                  refine WL_move (v := (.bool false)) (lt' rfl) rfl ?_
                  refine WL_no rfl rfl rfl rfl (lt' rfl) ?_
                  refine WL_no rfl rfl rfl rfl (lt' rfl) ?_
                  refine WL_no rfl rfl rfl rfl (lt' rfl) ?_
                  refine WL_no rfl rfl rfl rfl (lt' rfl) ?_
                  refine WL_no rfl rfl rfl rfl (lt' rfl) ?_
                  refine WL_no rfl rfl rfl rfl (lt' rfl) ?_
                  refine WL_no rfl rfl rfl rfl (lt' rfl) ?_
                  refine WL_pickF (v := (.bool false)) (lt' rfl) rfl rfl ?_
                  refine WL_assign (v := (.bool false)) (lt' rfl) rfl ?_
                  refine WL_nil ?_
                  exact kj37 () _ _ ⟨false, _, _, self_upds ⟨rfl, trivial⟩, hC46.pick [8] (by decide) rfl, H⟩
              · have H := iteF h49 H
                refine WL_no rfl rfl rfl (by rw [h49]; rfl) (lt' rfl) ?_
                refine WL_no rfl rfl rfl (by rw [h49]; rfl) (lt' rfl) ?_
                refine WL_no rfl rfl rfl (by rw [h49]; rfl) (lt' rfl) ?_
                refine WL_no rfl rfl rfl (by rw [h49]; rfl) (lt' rfl) ?_
                refine WL_no rfl rfl rfl (by rw [h49]; rfl) (lt' rfl) ?_
                refine WL_pickF (v := (.bool false)) (lt' rfl) (by show Value.bool _ = _; rw [h49]) rfl ?_
                refine WL_move (v := (.bool false)) (lt' rfl) rfl ?_
                refine WL_no rfl rfl rfl rfl (lt' rfl) ?_
                refine WL_no rfl rfl rfl rfl (lt' rfl) ?_
                refine WL_no rfl rfl rfl rfl (lt' rfl) ?_
                refine WL_no rfl rfl rfl rfl (lt' rfl) ?_
                refine WL_no rfl rfl rfl rfl (lt' rfl) ?_
                refine WL_pickF (v := (.bool false)) (lt' rfl) rfl rfl ?_
                refine WL_move (v := (.bool false)) (lt' rfl) rfl ?_
                refine WL_no rfl rfl rfl rfl (lt' rfl) ?_
                refine WL_no rfl rfl rfl rfl (lt' rfl) ?_
                refine WL_no rfl rfl rfl rfl (lt' rfl) ?_
                refine WL_no rfl rfl rfl rfl (lt' rfl) ?_
                refine WL_no rfl rfl rfl rfl (lt' rfl) ?_
                refine WL_no rfl rfl rfl rfl (lt' rfl) ?_
                refine WL_no rfl rfl rfl rfl (lt' rfl) ?_
                refine WL_pickF (v := (.bool false)) (lt' rfl) rfl rfl ?_
                refine WL_assign (v := (.bool false)) (lt' rfl) rfl ?_
                refine WL_nil ?_
                exact kj37 () _ _ ⟨false, _, _, self_upds ⟨rfl, trivial⟩, hC46.pick [8] (by decide) rfl, H⟩
            · have H := iteF h48 H
              refine WL_no rfl rfl rfl (by rw [h48]; rfl) (lt' rfl) ?_
              refine WL_no rfl rfl rfl (by rw [h48]; rfl) (lt' rfl) ?_
              refine WL_no rfl rfl rfl (by rw [h48]; rfl) (lt' rfl) ?_
              refine WL_no rfl rfl rfl (by rw [h48]; rfl) (lt' rfl) ?_
              refine WL_no rfl rfl rfl (by rw [h48]; rfl) (lt' rfl) ?_
              refine WL_pickF (v := (.bool false)) (lt' rfl) (by show Value.bool _ = _; rw [h48]) rfl ?_
              refine WL_move (v := (.bool false)) (lt' rfl) rfl ?_
              refine WL_no rfl rfl rfl rfl (lt' rfl) ?_
              refine WL_no rfl rfl rfl rfl (lt' rfl) ?_
              refine WL_no rfl rfl rfl rfl (lt' rfl) ?_
              refine WL_no rfl rfl rfl rfl (lt' rfl) ?_
              refine WL_no rfl rfl rfl rfl (lt' rfl) ?_
              refine WL_pickF (v := (.bool false)) (lt' rfl) rfl rfl ?_
              refine WL_move (v := (.bool false)) (lt' rfl) rfl ?_
              refine WL_no rfl rfl rfl rfl (lt' rfl) ?_
              refine WL_no rfl rfl rfl rfl (lt' rfl) ?_
              refine WL_no rfl rfl rfl rfl (lt' rfl) ?_
              refine WL_no rfl rfl rfl rfl (lt' rfl) ?_
              refine WL_no rfl rfl rfl rfl (lt' rfl) ?_
              refine WL_pickF (v := (.bool false)) (lt' rfl) rfl rfl ?_
              refine WL_move (v := (.bool false)) (lt' rfl) rfl ?_
              refine WL_no rfl rfl rfl rfl (lt' rfl) ?_
              refine WL_no rfl rfl rfl rfl (lt' rfl) ?_
              refine WL_no rfl rfl rfl rfl (lt' rfl) ?_
              refine WL_no rfl rfl rfl rfl (lt' rfl) ?_
              refine WL_no rfl rfl rfl rfl (lt' rfl) ?_
              refine WL_no rfl rfl rfl rfl (lt' rfl) ?_
              refine WL_no rfl rfl rfl rfl (lt' rfl) ?_
              refine WL_pickF (v := (.bool false)) (lt' rfl) rfl rfl ?_
              refine WL_assign (v := (.bool false)) (lt' rfl) rfl ?_
              refine WL_nil ?_
              exact kj37 () _ _ ⟨false, _, _, self_upds ⟨rfl, trivial⟩, hC46.pick [8] (by decide) rfl, H⟩
          · have H := iteF h47 H
            refine WL_no rfl rfl rfl (by rw [h47]; rfl) (lt' rfl) ?_
            refine WL_no rfl rfl rfl (by rw [h47]; rfl) (lt' rfl) ?_
            refine WL_no rfl rfl rfl (by rw [h47]; rfl) (lt' rfl) ?_
            refine WL_no rfl rfl rfl (by rw [h47]; rfl) (lt' rfl) ?_
            refine WL_no rfl rfl rfl (by rw [h47]; rfl) (lt' rfl) ?_
            refine WL_pickF (v := (.bool false)) (lt' rfl) (by show Value.bool _ = _; rw [h47]) rfl ?_
            refine WL_move (v := (.bool false)) (lt' rfl) rfl ?_
            refine WL_no rfl rfl rfl rfl (lt' rfl) ?_
            refine WL_no rfl rfl rfl rfl (lt' rfl) ?_
            refine WL_no rfl rfl rfl rfl (lt' rfl) ?_
            refine WL_no rfl rfl rfl rfl (lt' rfl) ?_
            refine WL_no rfl rfl rfl rfl (lt' rfl) ?_
            refine WL_pickF (v := (.bool false)) (lt' rfl) rfl rfl ?_
            refine WL_move (v := (.bool false)) (lt' rfl) rfl ?_
            refine WL_no rfl rfl rfl rfl (lt' rfl) ?_
            refine WL_no rfl rfl rfl rfl (lt' rfl) ?_
            refine WL_no rfl rfl rfl rfl (lt' rfl) ?_
            refine WL_no rfl rfl rfl rfl (lt' rfl) ?_
            refine WL_no rfl rfl rfl rfl (lt' rfl) ?_
            refine WL_pickF (v := (.bool false)) (lt' rfl) rfl rfl ?_
            refine WL_move (v := (.bool false)) (lt' rfl) rfl ?_
            refine WL_no rfl rfl rfl rfl (lt' rfl) ?_
            refine WL_no rfl rfl rfl rfl (lt' rfl) ?_
            refine WL_no rfl rfl rfl rfl (lt' rfl) ?_
            refine WL_no rfl rfl rfl rfl (lt' rfl) ?_
            refine WL_no rfl rfl rfl rfl (lt' rfl) ?_
            refine WL_pickF (v := (.bool false)) (lt' rfl) rfl rfl ?_
            refine WL_move (v := (.bool false)) (lt' rfl) rfl ?_
            refine WL_no rfl rfl rfl rfl (lt' rfl) ?_
            refine WL_no rfl rfl rfl rfl (lt' rfl) ?_
            refine WL_no rfl rfl rfl rfl (lt' rfl) ?_
            refine WL_no rfl rfl rfl rfl (lt' rfl) ?_
            refine WL_no rfl rfl rfl rfl (lt' rfl) ?_
            refine WL_no rfl rfl rfl rfl (lt' rfl) ?_
            refine WL_no rfl rfl rfl rfl (lt' rfl) ?_
            refine WL_pickF (v := (.bool false)) (lt' rfl) rfl rfl ?_
            refine WL_assign (v := (.bool false)) (lt' rfl) rfl ?_
            refine WL_nil ?_
            exact kj37 () _ _ ⟨false, _, _, self_upds ⟨rfl, trivial⟩, hC46.pick [8] (by decide) rfl, H⟩
        · have H := iteF h41 H
          refine WL_no rfl rfl rfl (by rw [h41]; rfl) (lt' rfl) ?_
          refine WL_no rfl rfl rfl (by rw [h41]; rfl) (lt' rfl) ?_
          refine WL_no rfl rfl rfl (by rw [h41]; rfl) (lt' rfl) ?_
          refine WL_no rfl rfl rfl (by rw [h41]; rfl) (lt' rfl) ?_
          refine WL_no rfl rfl rfl (by rw [h41]; rfl) (lt' rfl) ?_
          refine WL_pickF (v := (.bool false)) (lt' rfl) (by show Value.bool _ = _; rw [h41]) rfl ?_
          refine WL_move (v := (.bool false)) (lt' rfl) rfl ?_
          refine WL_no rfl rfl rfl rfl (lt' rfl) ?_
          refine WL_no rfl rfl rfl rfl (lt' rfl) ?_
          refine WL_no rfl rfl rfl rfl (lt' rfl) ?_
          refine WL_no rfl rfl rfl rfl (lt' rfl) ?_
          refine WL_no rfl rfl rfl rfl (lt' rfl) ?_
          refine WL_pickF (v := (.bool false)) (lt' rfl) rfl rfl ?_
          refine WL_move (v := (.bool false)) (lt' rfl) rfl ?_
          refine WL_no rfl rfl rfl rfl (lt' rfl) ?_
          refine WL_no rfl rfl rfl rfl (lt' rfl) ?_
          refine WL_no rfl rfl rfl rfl (lt' rfl) ?_
          refine WL_no rfl rfl rfl rfl (lt' rfl) ?_
          refine WL_no rfl rfl rfl rfl (lt' rfl) ?_
          refine WL_pickF (v := (.bool false)) (lt' rfl) rfl rfl ?_
          refine WL_move (v := (.bool false)) (lt' rfl) rfl ?_
          refine WL_no rfl rfl rfl rfl (lt' rfl) ?_
          refine WL_no rfl rfl rfl rfl (lt' rfl) ?_
          refine WL_no rfl rfl rfl rfl (lt' rfl) ?_
          refine WL_no rfl rfl rfl rfl (lt' rfl) ?_
          refine WL_no rfl rfl rfl rfl (lt' rfl) ?_
          refine WL_pickF (v := (.bool false)) (lt' rfl) rfl rfl ?_
          refine WL_move (v := (.bool false)) (lt' rfl) rfl ?_
          refine WL_no rfl rfl rfl rfl (lt' rfl) ?_
          refine WL_no rfl rfl rfl rfl (lt' rfl) ?_
          refine WL_no rfl rfl rfl rfl (lt' rfl) ?_
          refine WL_no rfl rfl rfl rfl (lt' rfl) ?_
          refine WL_no rfl rfl rfl rfl (lt' rfl) ?_
          refine WL_pickF (v := (.bool false)) (lt' rfl) rfl rfl ?_
          refine WL_move (v := (.bool false)) (lt' rfl) rfl ?_
          refine WL_no rfl rfl rfl rfl (lt' rfl) ?_
          refine WL_no rfl rfl rfl rfl (lt' rfl) ?_
          refine WL_no rfl rfl rfl rfl (lt' rfl) ?_
          refine WL_no rfl rfl rfl rfl (lt' rfl) ?_
          refine WL_no rfl rfl rfl rfl (lt' rfl) ?_
          refine WL_no rfl rfl rfl rfl (lt' rfl) ?_
          refine WL_no rfl rfl rfl rfl (lt' rfl) ?_
          refine WL_pickF (v := (.bool false)) (lt' rfl) rfl rfl ?_
          refine WL_assign (v := (.bool false)) (lt' rfl) rfl ?_
          refine WL_nil ?_
          exact kj37 () _ _ ⟨false, _, _, self_upds ⟨rfl, trivial⟩, hC31.pick [8] (by decide) rfl, H⟩
      · have H := iteF h40 H
        refine WL_no rfl rfl rfl (by rw [h40]; rfl) (lt' rfl) ?_
        refine WL_no rfl rfl rfl (by rw [h40]; rfl) (lt' rfl) ?_
        refine WL_no rfl rfl rfl (by rw [h40]; rfl) (lt' rfl) ?_
        refine WL_no rfl rfl rfl (by rw [h40]; rfl) (lt' rfl) ?_
        refine WL_no rfl rfl rfl (by rw [h40]; rfl) (lt' rfl) ?_
        refine WL_pickF (v := (.bool false)) (lt' rfl) (by show Value.bool _ = _; rw [h40]) rfl ?_
        refine WL_move (v := (.bool false)) (lt' rfl) rfl ?_
        refine WL_no rfl rfl rfl rfl (lt' rfl) ?_
        refine WL_no rfl rfl rfl rfl (lt' rfl) ?_
        refine WL_no rfl rfl rfl rfl (lt' rfl) ?_
        refine WL_no rfl rfl rfl rfl (lt' rfl) ?_
        refine WL_no rfl rfl rfl rfl (lt' rfl) ?_
        refine WL_pickF (v := (.bool false)) (lt' rfl) rfl rfl ?_
        refine WL_move (v := (.bool false)) (lt' rfl) rfl ?_
        refine WL_no rfl rfl rfl rfl (lt' rfl) ?_
        refine WL_no rfl rfl rfl rfl (lt' rfl) ?_
        refine WL_no rfl rfl rfl rfl (lt' rfl) ?_
        refine WL_no rfl rfl rfl rfl (lt' rfl) ?_
        refine WL_no rfl rfl rfl rfl (lt' rfl) ?_
        refine WL_pickF (v := (.bool false)) (lt' rfl) rfl rfl ?_
        refine WL_move (v := (.bool false)) (lt' rfl) rfl ?_
        refine WL_no rfl rfl rfl rfl (lt' rfl) ?_
        refine WL_no rfl rfl rfl rfl (lt' rfl) ?_
        refine WL_no rfl rfl rfl rfl (lt' rfl) ?_
        refine WL_no rfl rfl rfl rfl (lt' rfl) ?_
        refine WL_no rfl rfl rfl rfl (lt' rfl) ?_
        refine WL_pickF (v := (.bool false)) (lt' rfl) rfl rfl ?_
        refine WL_move (v := (.bool false)) (lt' rfl) rfl ?_
        refine WL_no rfl rfl rfl rfl (lt' rfl) ?_
        refine WL_no rfl rfl rfl rfl (lt' rfl) ?_
        refine WL_no rfl rfl rfl rfl (lt' rfl) ?_
        refine WL_no rfl rfl rfl rfl (lt' rfl) ?_
        refine WL_no rfl rfl rfl rfl (lt' rfl) ?_
        refine WL_pickF (v := (.bool false)) (lt' rfl) rfl rfl ?_
        refine WL_move (v := (.bool false)) (lt' rfl) rfl ?_
        refine WL_no rfl rfl rfl rfl (lt' rfl) ?_
        refine WL_no rfl rfl rfl rfl (lt' rfl) ?_
        refine WL_no rfl rfl rfl rfl (lt' rfl) ?_
        refine WL_no rfl rfl rfl rfl (lt' rfl) ?_
        refine WL_no rfl rfl rfl rfl (lt' rfl) ?_
        refine WL_pickF (v := (.bool false)) (lt' rfl) rfl rfl ?_
        refine WL_move (v := (.bool false)) (lt' rfl) rfl ?_
        refine WL_no rfl rfl rfl rfl (lt' rfl) ?_
        refine WL_no rfl rfl rfl rfl (lt' rfl) ?_
        refine WL_no rfl rfl rfl rfl (lt' rfl) ?_
        refine WL_no rfl rfl rfl rfl (lt' rfl) ?_
        refine WL_no rfl rfl rfl rfl (lt' rfl) ?_
        refine WL_no rfl rfl rfl rfl (lt' rfl) ?_
        refine WL_no rfl rfl rfl rfl (lt' rfl) ?_
        refine WL_pickF (v := (.bool false)) (lt' rfl) rfl rfl ?_
        refine WL_assign (v := (.bool false)) (lt' rfl) rfl ?_
        refine WL_nil ?_
        exact kj37 () _ _ ⟨false, _, _, self_upds ⟨rfl, trivial⟩, hC31.pick [8] (by decide) rfl, H⟩
    · have H := iteF h39 H
      refine WL_no rfl rfl rfl (by rw [h39]; rfl) (lt' rfl) ?_
      refine WL_no rfl rfl rfl (by rw [h39]; rfl) (lt' rfl) ?_
      refine WL_no rfl rfl rfl (by rw [h39]; rfl) (lt' rfl) ?_
      refine WL_no rfl rfl rfl (by rw [h39]; rfl) (lt' rfl) ?_
      refine WL_no rfl rfl rfl (by rw [h39]; rfl) (lt' rfl) ?_
      refine WL_pickF (v := (.bool false)) (lt' rfl) (by show Value.bool _ = _; rw [h39]) rfl ?_
      refine WL_move (v := (.bool false)) (lt' rfl) rfl ?_
      refine WL_no rfl rfl rfl rfl (lt' rfl) ?_
      refine WL_no rfl rfl rfl rfl (lt' rfl) ?_
      refine WL_no rfl rfl rfl rfl (lt' rfl) ?_
      refine WL_no rfl rfl rfl rfl (lt' rfl) ?_
      refine WL_no rfl rfl rfl rfl (lt' rfl) ?_
      refine WL_pickF (v := (.bool false)) (lt' rfl) rfl rfl ?_
      refine WL_move (v := (.bool false)) (lt' rfl) rfl ?_
      refine WL_no rfl rfl rfl rfl (lt' rfl) ?_
      refine WL_no rfl rfl rfl rfl (lt' rfl) ?_
      refine WL_no rfl rfl rfl rfl (lt' rfl) ?_
      refine WL_no rfl rfl rfl rfl (lt' rfl) ?_
      refine WL_no rfl rfl rfl rfl (lt' rfl) ?_
      refine WL_pickF (v := (.bool false)) (lt' rfl) rfl rfl ?_
      refine WL_move (v := (.bool false)) (lt' rfl) rfl ?_
      refine WL_no rfl rfl rfl rfl (lt' rfl) ?_
      refine WL_no rfl rfl rfl rfl (lt' rfl) ?_
      refine WL_no rfl rfl rfl rfl (lt' rfl) ?_
      refine WL_no rfl rfl rfl rfl (lt' rfl) ?_
      refine WL_no rfl rfl rfl rfl (lt' rfl) ?_
      refine WL_pickF (v := (.bool false)) (lt' rfl) rfl rfl ?_
      refine WL_move (v := (.bool false)) (lt' rfl) rfl ?_
      refine WL_no rfl rfl rfl rfl (lt' rfl) ?_
      refine WL_no rfl rfl rfl rfl (lt' rfl) ?_
      refine WL_no rfl rfl rfl rfl (lt' rfl) ?_
      refine WL_no rfl rfl rfl rfl (lt' rfl) ?_
      refine WL_no rfl rfl rfl rfl (lt' rfl) ?_
      refine WL_pickF (v := (.bool false)) (lt' rfl) rfl rfl ?_
      refine WL_move (v := (.bool false)) (lt' rfl) rfl ?_
      refine WL_no rfl rfl rfl rfl (lt' rfl) ?_
      refine WL_no rfl rfl rfl rfl (lt' rfl) ?_
      refine WL_no rfl rfl rfl rfl (lt' rfl) ?_
      refine WL_no rfl rfl rfl rfl (lt' rfl) ?_
      refine WL_no rfl rfl rfl rfl (lt' rfl) ?_
      refine WL_pickF (v := (.bool false)) (lt' rfl) rfl rfl ?_
      refine WL_move (v := (.bool false)) (lt' rfl) rfl ?_
      refine WL_no rfl rfl rfl rfl (lt' rfl) ?_
      refine WL_no rfl rfl rfl rfl (lt' rfl) ?_
      refine WL_no rfl rfl rfl rfl (lt' rfl) ?_
      refine WL_no rfl rfl rfl rfl (lt' rfl) ?_
      refine WL_no rfl rfl rfl rfl (lt' rfl) ?_
      refine WL_pickF (v := (.bool false)) (lt' rfl) rfl rfl ?_
      refine WL_move (v := (.bool false)) (lt' rfl) rfl ?_
      refine WL_no rfl rfl rfl rfl (lt' rfl) ?_
      refine WL_no rfl rfl rfl rfl (lt' rfl) ?_
      refine WL_no rfl rfl rfl rfl (lt' rfl) ?_
      refine WL_no rfl rfl rfl rfl (lt' rfl) ?_
      refine WL_no rfl rfl rfl rfl (lt' rfl) ?_
      refine WL_no rfl rfl rfl rfl (lt' rfl) ?_
      refine WL_no rfl rfl rfl rfl (lt' rfl) ?_
      refine WL_pickF (v := (.bool false)) (lt' rfl) rfl rfl ?_
      refine WL_assign (v := (.bool false)) (lt' rfl) rfl ?_
      refine WL_nil ?_
      exact kj37 () _ _ ⟨false, _, _, self_upds ⟨rfl, trivial⟩, hC31.pick [8] (by decide) rfl, H⟩
  · rintro - - w36 ⟨x33, ρ0, O35, rfl, hC34, H⟩
    refine W_ret ?_
    obtain rfl := Option.some.inj H
    exact Exists.intro () (And.intro rfl (And.intro hC34.keep trivial))

-- cubbyhole/cubbyholeref07.Same
def F_ref07_Same_j4 (N : Nat) (x156 : Bool) : Option Bool :=
  some x156
def F_ref07_Same_j3 (N : Nat) (x33 : List UInt8) (x34 : Int) (x35 : List UInt8) (x36 : List ApiRange) (x40 : Int) (x41 : Int) (x42 : Bool) (x43 : UInt8) (x44 : List UInt8) (x48 : List UInt8) (x49 : Int) (x50 : List UInt8) (x51 : List ApiRange) (x55 : Int) (x56 : Int) (x57 : Bool) (x58 : UInt8) (x59 : List UInt8) : Option Bool :=
  (if ((x33 : List UInt8) == x48) = true then (if ((x34 : Int) == (x49 : Int)) = true then (if ((x35 : List UInt8) == x50) = true then (if ((x40 : Int) == (x55 : Int)) = true then (if ((x41 : Int) == (x56 : Int)) = true then (if (x42 == x57) = true then F_ref07_Same_j4 N   ((x43 : UInt8) == (x58 : UInt8)) else F_ref07_Same_j4 N   false) else F_ref07_Same_j4 N   false) else F_ref07_Same_j4 N   false) else F_ref07_Same_j4 N   false) else F_ref07_Same_j4 N   false) else F_ref07_Same_j4 N   false)
def F_ref07_Same_l1 (N : Nat) (x33 : List UInt8) (x34 : Int) (x35 : List UInt8) (x36 : List ApiRange) (x40 : Int) (x41 : Int) (x42 : Bool) (x43 : UInt8) (x44 : List UInt8) (x48 : List UInt8) (x49 : Int) (x50 : List UInt8) (x51 : List ApiRange) (x55 : Int) (x56 : Int) (x57 : Bool) (x58 : UInt8) (x59 : List UInt8) : Nat → Int → Option Bool
  | 0, _ => none
  | m123 + 1, x117 =>
    (if (decide ((x117 : Int) < ((x36.length : Int) : Int))) = true then Option.bind (sget x36 x117) fun x128 => Option.bind (sget x51 x117) fun x135 => (if (!(((x128.Lo : Int) == x135.Lo) && ((x128.Hi : Int) == x135.Hi))) = true then some false else (F_ref07_Same_l1 N x33 x34 x35 x36 x40 x41 x42 x43 x44 x48 x49 x50 x51 x55 x56 x57 x58 x59  m123) (IntKind.wrap .i64 ((x117 : Int) + (1 : Int)))) else F_ref07_Same_j3 N x33 x34 x35 x36 x40 x41 x42 x43 x44 x48 x49 x50 x51 x55 x56 x57 x58 x59  )
def F_ref07_Same_j1 (N : Nat) (x33 : List UInt8) (x34 : Int) (x35 : List UInt8) (x36 : List ApiRange) (x40 : Int) (x41 : Int) (x42 : Bool) (x43 : UInt8) (x44 : List UInt8) (x48 : List UInt8) (x49 : Int) (x50 : List UInt8) (x51 : List ApiRange) (x55 : Int) (x56 : Int) (x57 : Bool) (x58 : UInt8) (x59 : List UInt8) : Option Bool :=
  F_ref07_Same_l1 N x33 x34 x35 x36 x40 x41 x42 x43 x44 x48 x49 x50 x51 x55 x56 x57 x58 x59  N 0
def F_ref07_Same_j2 (N : Nat) (x70 : List UInt8) (x71 : Int) (x72 : List UInt8) (x73 : List ApiRange) (x77 : Int) (x78 : Int) (x79 : Bool) (x80 : UInt8) (x81 : List UInt8) (x85 : List UInt8) (x86 : Int) (x87 : List UInt8) (x88 : List ApiRange) (x92 : Int) (x93 : Int) (x94 : Bool) (x95 : UInt8) (x96 : List UInt8) (x100 : Bool) : Option Bool :=
  (if x100 = true then some false else F_ref07_Same_j1 N   x70 x71 x72 x73 x77 x78 x79 x80 x81 x85 x86 x87 x88 x92 x93 x94 x95 x96)
def F_ref07_Same (N : Nat) (p0 : ApiCommand) (p1 : ApiCommand) : Option Bool :=
  (if (((p0.Set.length : Int) : Int) != ((p1.Set.length : Int) : Int)) = true then F_ref07_Same_j2 N   p0.Tag p0.Kind p0.Mailbox p0.Set p0.Items p0.Mode p0.Silent p0.Flags p0.Data p1.Tag p1.Kind p1.Mailbox p1.Set p1.Items p1.Mode p1.Silent p1.Flags p1.Data true else F_ref07_Same_j2 N   p0.Tag p0.Kind p0.Mailbox p0.Set p0.Items p0.Mode p0.Silent p0.Flags p0.Data p1.Tag p1.Kind p1.Mailbox p1.Set p1.Items p1.Mode p1.Silent p1.Flags p1.Data ((p0.Data : List UInt8) != p1.Data))
set_option maxRecDepth 100000 in
set_option maxHeartbeats 4000000 in
theorem f13_ok (N : Nat) {O0 : List Nat} {w0 : World} (hO : ∀ b, b ∈ O0 → b < w0.heap.size) (hG : rGlob.rel O0 w0 [] ()) (pcs0 : List Value) (p0 : ApiCommand) (ph0 : Rp.rel rApiCommand O0 w0 pcs0 p0) (pcs1 : List Value) (p1 : ApiCommand) (ph1 : Rp.rel rApiCommand O0 w0 pcs1 p1) (y : Bool) (H : F_ref07_Same N p0 p1 = some y) :
    Calls Tryz.prog 13 (List.toArray [(.agg (List.toArray pcs0)), (.agg (List.toArray pcs1))]) w0 fun e w => ∃ z : Unit, e = .returned (.bool y) ∧ Keep [] w0 w ∧ True := by
  have hNK : ∀ b : Nat, b ∈ ([] : List Nat) → False := by intro b h; cases h
  have hC := ((((Ctx.start hO).imm hG).imm ph0).imm ph1)
  refine calls_of_W (ts := [4]) Tryz.func13 rfl rfl Tryz.ntmps13 (Nat.le_of_ble_eq_true rfl) ?_
  refine W_seq ?_
  refine W_region ?_
  have hx9 := hC.immAt (i := 1) rfl
  obtain ⟨a3, c4, a6, c7, rfl, hs5, hs8⟩ := rApiCommand_shape hx9
  have hC10 := hC.imm hs5
  have hC12 := hC10.imm hs8
  refine WL_box (cells := [(vstr p0.Tag), (.int .i64 p0.Kind), (vstr p0.Mailbox), (.slice a3 (List.length p0.Set) c4), (.int .i64 p0.Items), (.int .i64 p0.Mode), (.bool p0.Silent), (.int .u8 ((UInt8.toNat p0.Flags : Nat) : Int)), (.slice a6 (List.length p0.Data) c7)]) hC12 (lt' rfl) rfl rfl (fun b14 w15 hC16 => ?_)
  have hx24 := hC16.immAt (i := 3) rfl
  obtain ⟨a18, c19, a21, c22, rfl, hs20, hs23⟩ := rApiCommand_shape hx24
  have hC25 := hC16.imm hs20
  have hC27 := hC25.imm hs23
  refine WL_box (cells := [(vstr p1.Tag), (.int .i64 p1.Kind), (vstr p1.Mailbox), (.slice a18 (List.length p1.Set) c19), (.int .i64 p1.Items), (.int .i64 p1.Mode), (.bool p1.Silent), (.int .u8 ((UInt8.toNat p1.Flags : Nat) : Int)), (.slice a21 (List.length p1.Data) c22)]) hC27 (lt' rfl) rfl rfl (fun b29 w30 hC31 => ?_)
  refine WL_assign (v := (.bool false)) (lt' rfl) rfl ?_
  refine WL_nil ?_
  refine W_joinS Unit (fun (_ : Unit) (ρ : Env) (w : World) => ∃ (x33 : List UInt8) (x34 : Int) (x35 : List UInt8) (x36 : List ApiRange) (x40 : Int) (x41 : Int) (x42 : Bool) (x43 : UInt8) (x44 : List UInt8) (x48 : List UInt8) (x49 : Int) (x50 : List UInt8) (x51 : List ApiRange) (x55 : Int) (x56 : Int) (x57 : Bool) (x58 : UInt8) (x59 : List UInt8) (a37 : Option Addr) (c38 : Nat) (a45 : Option Addr) (c46 : Nat) (a52 : Option Addr) (c53 : Nat) (a60 : Option Addr) (c61 : Nat) (ρ0 : Env) (O : List Nat), ρ = upds ρ0 [(2, (.pointer (some ⟨b14, 0, none⟩))), (3, (.pointer (some ⟨b29, 0, none⟩)))] ∧ Ctx O0 [] w0 O w [.imm rGlob [] (), .imm (Rp.sl rApiRange) [.slice a37 (List.length x36) c38] x36, .imm (Rp.sl rU8) [.slice a45 (List.length x44) c46] x44, .imm (Rp.sl rApiRange) [.slice a52 (List.length x51) c53] x51, .imm (Rp.sl rU8) [.slice a60 (List.length x59) c61] x59, .box b14 [(vstr x33), (.int .i64 x34), (vstr x35), (.slice a37 (List.length x36) c38), (.int .i64 x40), (.int .i64 x41), (.bool x42), (.int .u8 ((UInt8.toNat x43 : Nat) : Int)), (.slice a45 (List.length x44) c46)] 31, .box b29 [(vstr x48), (.int .i64 x49), (vstr x50), (.slice a52 (List.length x51) c53), (.int .i64 x55), (.int .i64 x56), (.bool x57), (.int .u8 ((UInt8.toNat x58 : Nat) : Int)), (.slice a60 (List.length x59) c61)] 31] ∧ F_ref07_Same_j1 N   x33 x34 x35 x36 x40 x41 x42 x43 x44 x48 x49 x50 x51 x55 x56 x57 x58 x59 = some y) (fun K69 kj68 => ?_) ?_
  · skip
    refine W_joinS Unit (fun (_ : Unit) (ρ : Env) (w : World) => ∃ (x70 : List UInt8) (x71 : Int) (x72 : List UInt8) (x73 : List ApiRange) (x77 : Int) (x78 : Int) (x79 : Bool) (x80 : UInt8) (x81 : List UInt8) (x85 : List UInt8) (x86 : Int) (x87 : List UInt8) (x88 : List ApiRange) (x92 : Int) (x93 : Int) (x94 : Bool) (x95 : UInt8) (x96 : List UInt8) (x100 : Bool) (a74 : Option Addr) (c75 : Nat) (a82 : Option Addr) (c83 : Nat) (a89 : Option Addr) (c90 : Nat) (a97 : Option Addr) (c98 : Nat) (ρ0 : Env) (O : List Nat), ρ = upds ρ0 [(2, (.pointer (some ⟨b14, 0, none⟩))), (3, (.pointer (some ⟨b29, 0, none⟩))), (21, (.bool x100))] ∧ Ctx O0 [] w0 O w [.imm rGlob [] (), .imm (Rp.sl rApiRange) [.slice a74 (List.length x73) c75] x73, .imm (Rp.sl rU8) [.slice a82 (List.length x81) c83] x81, .imm (Rp.sl rApiRange) [.slice a89 (List.length x88) c90] x88, .imm (Rp.sl rU8) [.slice a97 (List.length x96) c98] x96, .box b14 [(vstr x70), (.int .i64 x71), (vstr x72), (.slice a74 (List.length x73) c75), (.int .i64 x77), (.int .i64 x78), (.bool x79), (.int .u8 ((UInt8.toNat x80 : Nat) : Int)), (.slice a82 (List.length x81) c83)] 31, .box b29 [(vstr x85), (.int .i64 x86), (vstr x87), (.slice a89 (List.length x88) c90), (.int .i64 x92), (.int .i64 x93), (.bool x94), (.int .u8 ((UInt8.toNat x95 : Nat) : Int)), (.slice a97 (List.length x96) c98)] 31] ∧ F_ref07_Same_j2 N   x70 x71 x72 x73 x77 x78 x79 x80 x81 x85 x86 x87 x88 x92 x93 x94 x95 x96 x100 = some y) (fun K107 kj106 => ?_) ?_
    · skip
      refine W_region ?_
      refine WL_fieldBox' (off' := 3) Tryz.underlying31 rfl Tryz.sizeOf27 rfl (lt' rfl) rfl ?_
      refine WL_loadBox (v := (.slice a3 (List.length p0.Set) c4)) hC31 (i := 3) rfl rfl Tryz.isAgg27 (lt' rfl) rfl ?_
      refine WL_llen Tryz.underlying27 (lt' rfl) rfl ?_
      refine WL_fieldBox' (off' := 3) Tryz.underlying31 rfl Tryz.sizeOf27 rfl (lt' rfl) rfl ?_
      refine WL_loadBox (v := (.slice a18 (List.length p1.Set) c19)) hC31 (i := 0) rfl rfl Tryz.isAgg27 (lt' rfl) rfl ?_
      refine WL_llen Tryz.underlying27 (lt' rfl) rfl ?_
      refine WL_ineq (a := ((p0.Set.length : Int) : Int)) (b := ((p1.Set.length : Int) : Int)) (lt' rfl) rfl rfl ?_
      refine WL_move (v := (.bool (((p0.Set.length : Int) : Int) != ((p1.Set.length : Int) : Int)))) (lt' rfl) rfl ?_
      rcases Bool.eq_false_or_eq_true (((p0.Set.length : Int) : Int) != ((p1.Set.length : Int) : Int)) with h108 | h108
      · have H := iteT h108 H
        refine WL_no rfl rfl rfl (by rw [h108]; rfl) (lt' rfl) ?_
        refine WL_no rfl rfl rfl (by rw [h108]; rfl) (lt' rfl) ?_
        refine WL_no rfl rfl rfl (by rw [h108]; rfl) (lt' rfl) ?_
        refine WL_no rfl rfl rfl (by rw [h108]; rfl) (lt' rfl) ?_
        refine WL_no rfl rfl rfl (by rw [h108]; rfl) (lt' rfl) ?_
        refine WL_no rfl rfl rfl (by rw [h108]; rfl) (lt' rfl) ?_
        refine WL_no rfl rfl rfl (by rw [h108]; rfl) (lt' rfl) ?_
        refine WL_pickT (v := (.bool true)) (lt' rfl) (by show Value.bool _ = _; rw [h108]) rfl ?_
        refine WL_nil ?_
        exact kj106 () _ _ ⟨p0.Tag, p0.Kind, p0.Mailbox, p0.Set, p0.Items, p0.Mode, p0.Silent, p0.Flags, p0.Data, p1.Tag, p1.Kind, p1.Mailbox, p1.Set, p1.Items, p1.Mode, p1.Silent, p1.Flags, p1.Data, true, a3, c4, a6, c7, a18, c19, a21, c22, _, _, self_upds ⟨rfl, rfl, rfl, trivial⟩, hC31.pick [8, 5, 4, 2, 1, 3, 0] (by decide) rfl, H⟩
      · have H := iteF h108 H
        refine WL_yes rfl rfl rfl h108 ?_
        refine WL_fieldBox' (off' := 8) Tryz.underlying31 rfl Tryz.sizeOf29 rfl (lt' rfl) rfl ?_
        refine WL_yes rfl rfl rfl h108 ?_
        refine WL_loadBox (v := (.slice a6 (List.length p0.Data) c7)) hC31 (i := 3) rfl rfl Tryz.isAgg29 (lt' rfl) rfl ?_
        refine WL_yes rfl rfl rfl h108 ?_
        refine WL_bytesStr (s := p0.Data) (hC31.immAt (i := 4) rfl) Tryz.underlying29 Tryz.underlying5 Tryz.underlying9 (lt' rfl) rfl ?_
        refine WL_yes rfl rfl rfl h108 ?_
        refine WL_fieldBox' (off' := 8) Tryz.underlying31 rfl Tryz.sizeOf29 rfl (lt' rfl) rfl ?_
        refine WL_yes rfl rfl rfl h108 ?_
        refine WL_loadBox (v := (.slice a21 (List.length p1.Data) c22)) hC31 (i := 0) rfl rfl Tryz.isAgg29 (lt' rfl) rfl ?_
        refine WL_yes rfl rfl rfl h108 ?_
        refine WL_bytesStr (s := p1.Data) (hC31.immAt (i := 1) rfl) Tryz.underlying29 Tryz.underlying5 Tryz.underlying9 (lt' rfl) rfl ?_
        refine WL_yes rfl rfl rfl h108 ?_
        refine WL_sneq (a := p0.Data) (b := p1.Data) (lt' rfl) rfl rfl ?_
        refine WL_pickF (v := (.bool ((p0.Data : List UInt8) != p1.Data))) (lt' rfl) (by show Value.bool _ = _; rw [h108]) rfl ?_
        refine WL_nil ?_
        exact kj106 () _ _ ⟨p0.Tag, p0.Kind, p0.Mailbox, p0.Set, p0.Items, p0.Mode, p0.Silent, p0.Flags, p0.Data, p1.Tag, p1.Kind, p1.Mailbox, p1.Set, p1.Items, p1.Mode, p1.Silent, p1.Flags, p1.Data, ((p0.Data : List UInt8) != p1.Data), a3, c4, a6, c7, a18, c19, a21, c22, _, _, self_upds ⟨rfl, rfl, rfl, trivial⟩, hC31.pick [8, 5, 4, 2, 1, 3, 0] (by decide) rfl, H⟩
    · rintro - - w105 ⟨x70, x71, x72, x73, x77, x78, x79, x80, x81, x85, x86, x87, x88, x92, x93, x94, x95, x96, x100, a74, c75, a82, c83, a89, c90, a97, c98, ρ0, O104, rfl, hC103, H⟩
      refine W_cond (t := x100) rfl (fun h109 => ?_) (fun h109 => ?_)
      · have H := iteT h109 H
        refine W_seq ?_
        refine W_region ?_
        refine WL_assign (v := (.bool false)) (lt' rfl) rfl ?_
        refine WL_nil ?_
        refine W_ret ?_
        obtain rfl := Option.some.inj H
        exact Exists.intro () (And.intro rfl (And.intro hC103.keep trivial))
      · have H := iteF h109 H
        refine W_skip ?_
        exact kj68 () _ _ ⟨x70, x71, x72, x73, x77, x78, x79, x80, x81, x85, x86, x87, x88, x92, x93, x94, x95, x96, a74, c75, a82, c83, a89, c90, a97, c98, _, _, self_upds ⟨rfl, rfl, trivial⟩, hC103.pick [0, 1, 2, 3, 4, 5, 6] (by decide) rfl, H⟩
  · rintro - - w67 ⟨x33, x34, x35, x36, x40, x41, x42, x43, x44, x48, x49, x50, x51, x55, x56, x57, x58, x59, a37, c38, a45, c46, a52, c53, a60, c61, ρ0, O66, rfl, hC65, H⟩
    refine W_joinS Unit (fun (_ : Unit) (ρ : Env) (w : World) => ∃ (ρ0 : Env) (O : List Nat), ρ = upds ρ0 [(2, (.pointer (some ⟨b14, 0, none⟩))), (3, (.pointer (some ⟨b29, 0, none⟩)))] ∧ Ctx O0 [] w0 O w [.imm rGlob [] (), .imm (Rp.sl rApiRange) [.slice a37 (List.length x36) c38] x36, .imm (Rp.sl rU8) [.slice a45 (List.length x44) c46] x44, .imm (Rp.sl rApiRange) [.slice a52 (List.length x51) c53] x51, .imm (Rp.sl rU8) [.slice a60 (List.length x59) c61] x59, .box b14 [(vstr x33), (.int .i64 x34), (vstr x35), (.slice a37 (List.length x36) c38), (.int .i64 x40), (.int .i64 x41), (.bool x42), (.int .u8 ((UInt8.toNat x43 : Nat) : Int)), (.slice a45 (List.length x44) c46)] 31, .box b29 [(vstr x48), (.int .i64 x49), (vstr x50), (.slice a52 (List.length x51) c53), (.int .i64 x55), (.int .i64 x56), (.bool x57), (.int .u8 ((UInt8.toNat x58 : Nat) : Int)), (.slice a60 (List.length x59) c61)] 31] ∧ F_ref07_Same_j3 N x33 x34 x35 x36 x40 x41 x42 x43 x44 x48 x49 x50 x51 x55 x56 x57 x58 x59   = some y) (fun K116 kj115 => ?_) ?_
    · skip
      refine W_seq ?_
      refine W_region ?_
      refine WL_assign (v := (.int .i64 0)) (lt' rfl) rfl ?_
      refine WL_nil ?_
      refine W_block ?_
      refine W_loop (fun m s => F_ref07_Same_l1 N x33 x34 x35 x36 x40 x41 x42 x43 x44 x48 x49 x50 x51 x55 x56 x57 x58 x59  m s) (fun (s : Int) (ρ : Env) (w : World) => ∃ (ρ0 : Env) (O : List Nat), ρ = upds ρ0 [(2, (.pointer (some ⟨b14, 0, none⟩))), (3, (.pointer (some ⟨b29, 0, none⟩))), (5, (.int .i64 s))] ∧ Ctx O0 [] w0 O w [.imm rGlob [] (), .imm (Rp.sl rApiRange) [.slice a37 (List.length x36) c38] x36, .imm (Rp.sl rU8) [.slice a45 (List.length x44) c46] x44, .imm (Rp.sl rApiRange) [.slice a52 (List.length x51) c53] x51, .imm (Rp.sl rU8) [.slice a60 (List.length x59) c61] x59, .box b14 [(vstr x33), (.int .i64 x34), (vstr x35), (.slice a37 (List.length x36) c38), (.int .i64 x40), (.int .i64 x41), (.bool x42), (.int .u8 ((UInt8.toNat x43 : Nat) : Int)), (.slice a45 (List.length x44) c46)] 31, .box b29 [(vstr x48), (.int .i64 x49), (vstr x50), (.slice a52 (List.length x51) c53), (.int .i64 x55), (.int .i64 x56), (.bool x57), (.int .u8 ((UInt8.toNat x58 : Nat) : Int)), (.slice a60 (List.length x59) c61)] 31]) N 0 y (fun _ => rfl) H ⟨_, _, self_upds ⟨rfl, rfl, rfl, trivial⟩, hC65.pick [0, 1, 2, 3, 4, 5, 6] (by decide) rfl⟩ ?_
      clear H
      rintro K124 m123 x117 - w122 ih125 H ⟨ρ0, O121, rfl, hC120⟩
      refine W_seq ?_
      refine W_seq ?_
      refine W_region ?_
      refine WL_move (v := (.int .i64 x117)) (lt' rfl) rfl ?_
      refine WL_fieldBox' (off' := 3) Tryz.underlying31 rfl Tryz.sizeOf27 rfl (lt' rfl) rfl ?_
      refine WL_loadBox (v := (.slice a37 (List.length x36) c38)) hC120 (i := 5) rfl rfl Tryz.isAgg27 (lt' rfl) rfl ?_
      refine WL_llen Tryz.underlying27 (lt' rfl) rfl ?_
      refine WL_ilss (a := (x117 : Int)) (b := ((x36.length : Int) : Int)) (lt' rfl) rfl rfl ?_
      refine WL_nil ?_
      refine W_cond (t := (decide ((x117 : Int) < ((x36.length : Int) : Int)))) rfl (fun h127 => ?_) (fun h127 => ?_)
      · have H := iteT h127 H
        refine W_skip ?_
        refine W_seq ?_
        refine W_block ?_
        refine W_seq ?_
        obtain ⟨x128, h129, H⟩ := bindE H
        obtain ⟨x135, h136, H⟩ := bindE H
        refine W_drawnF 11 (fun (S : Nat → Bool) (ρ : Env) (w : World) => ∃ (O : List Nat) (X : List Fact), Ctx O0 [] w0 O w (X ++ [.imm rGlob [] (), .imm (Rp.sl rApiRange) [.slice a37 (List.length x36) c38] x36, .imm (Rp.sl rU8) [.slice a45 (List.length x44) c46] x44, .imm (Rp.sl rApiRange) [.slice a52 (List.length x51) c53] x51, .imm (Rp.sl rU8) [.slice a60 (List.length x59) c61] x59, .box b14 [(vstr x33), (.int .i64 x34), (vstr x35), (.slice a37 (List.length x36) c38), (.int .i64 x40), (.int .i64 x41), (.bool x42), (.int .u8 ((UInt8.toNat x43 : Nat) : Int)), (.slice a45 (List.length x44) c46)] 31, .box b29 [(vstr x48), (.int .i64 x49), (vstr x50), (.slice a52 (List.length x51) c53), (.int .i64 x55), (.int .i64 x56), (.bool x57), (.int .u8 ((UInt8.toNat x58 : Nat) : Int)), (.slice a60 (List.length x59) c61)] 31]) ∧ (ρ 2 = (.pointer (some ⟨b14, 0, none⟩)) ∧ ρ 3 = (.pointer (some ⟨b29, 0, none⟩)) ∧ ρ 5 = (.int .i64 x117)) ∧ (S 0 = true → ρ 29 = (.pointer (some ⟨b14, 3, none⟩))) ∧ (S 1 = true → ρ 30 = (.slice a37 (List.length x36) c38)) ∧ (S 2 = true → ρ 31 = (.int .i64 x117)) ∧ (S 3 = true → ∃ qad142 : Addr, ρ 32 = (.pointer (some qad142)) ∧ (.elem rApiRange qad142 x128 : Fact) ∈ X) ∧ (S 4 = true → ρ 33 = (.agg (List.toArray [(.int .u32 x128.Lo), (.int .u32 x128.Hi)]))) ∧ (S 5 = true → ρ 34 = (.pointer (some ⟨b29, 3, none⟩))) ∧ (S 6 = true → ρ 35 = (.slice a52 (List.length x51) c53)) ∧ (S 7 = true → ρ 36 = (.int .i64 x117)) ∧ (S 8 = true → ∃ qad144 : Addr, ρ 37 = (.pointer (some qad144)) ∧ (.elem rApiRange qad144 x135 : Fact) ∈ X) ∧ (S 9 = true → ρ 38 = (.agg (List.toArray [(.int .u32 x135.Lo), (.int .u32 x135.Hi)]))) ∧ (S 10 = true → ρ 39 = (.bool (!(((x128.Lo : Int) == x135.Lo) && ((x128.Hi : Int) == x135.Hi)))))) (by kernel_rfl) (by kernel_rfl) (by kernel_rfl) (Nat.le_of_ble_eq_true rfl) ⟨_, [], hC120.drewC, ⟨rfl, rfl, rfl⟩, fun h => Bool.noConfusion h, fun h => Bool.noConfusion h, fun h => Bool.noConfusion h, fun h => Bool.noConfusion h, fun h => Bool.noConfusion h, fun h => Bool.noConfusion h, fun h => Bool.noConfusion h, fun h => Bool.noConfusion h, fun h => Bool.noConfusion h, fun h => Bool.noConfusion h, fun h => Bool.noConfusion h⟩ ?_ ?_
        · intro K146 S ρ wd i hi hSi hpre148 hI hK147 o ho
          obtain ⟨Od, X, hCd, ⟨hb2, hb3, hb5⟩, hp0, hp1, hp2, hp3, hp4, hp5, hp6, hp7, hp8, hp9, hp10⟩ := hI
          obtain rfl | rfl | rfl | rfl | rfl | rfl | rfl | rfl | rfl | rfl | rfl : i = 0 ∨ i = 1 ∨ i = 2 ∨ i = 3 ∨ i = 4 ∨ i = 5 ∨ i = 6 ∨ i = 7 ∨ i = 8 ∨ i = 9 ∨ i = 10 := by omega
          · obtain rfl := Option.some.inj ho
            obtain ⟨ρ1, rfl⟩ : ∃ ρ1, ρ = upds ρ1 [(2, (.pointer (some ⟨b14, 0, none⟩))), (3, (.pointer (some ⟨b29, 0, none⟩))), (5, (.int .i64 x117))] := ⟨ρ, self_upds ⟨hb2, hb3, hb5, trivial⟩⟩
            refine WL_fieldBox' (off' := 3) Tryz.underlying31 rfl Tryz.sizeOf27 rfl (lt' rfl) rfl ?_
            refine WL_nil ?_
            exact hK147 _ _ ⟨_, X, hCd, ⟨rfl, rfl, rfl⟩, (fun _ => rfl), hp1, hp2, hp3, hp4, hp5, hp6, hp7, hp8, hp9, hp10⟩
          · obtain rfl := Option.some.inj ho
            have he0 := hp0 (hpre148 0 rfl)
            obtain ⟨ρ1, rfl⟩ : ∃ ρ1, ρ = upds ρ1 [(2, (.pointer (some ⟨b14, 0, none⟩))), (3, (.pointer (some ⟨b29, 0, none⟩))), (5, (.int .i64 x117)), (29, (.pointer (some ⟨b14, 3, none⟩)))] := ⟨ρ, self_upds ⟨hb2, hb3, hb5, he0, trivial⟩⟩
            refine WL_loadBox (v := (.slice a37 (List.length x36) c38)) hCd (i := List.length X + 5) (base_at _ rfl) rfl Tryz.isAgg27 (lt' rfl) rfl ?_
            refine WL_nil ?_
            exact hK147 _ _ ⟨_, X, hCd, ⟨rfl, rfl, rfl⟩, hp0, (fun _ => rfl), hp2, hp3, hp4, hp5, hp6, hp7, hp8, hp9, hp10⟩
          · obtain rfl := Option.some.inj ho
            obtain ⟨ρ1, rfl⟩ : ∃ ρ1, ρ = upds ρ1 [(2, (.pointer (some ⟨b14, 0, none⟩))), (3, (.pointer (some ⟨b29, 0, none⟩))), (5, (.int .i64 x117))] := ⟨ρ, self_upds ⟨hb2, hb3, hb5, trivial⟩⟩
            refine WL_move (v := (.int .i64 x117)) (lt' rfl) rfl ?_
            refine WL_nil ?_
            exact hK147 _ _ ⟨_, X, hCd, ⟨rfl, rfl, rfl⟩, hp0, hp1, (fun _ => rfl), hp3, hp4, hp5, hp6, hp7, hp8, hp9, hp10⟩
          · obtain rfl := Option.some.inj ho
            have he1 := hp1 (hpre148 1 rfl)
            have he2 := hp2 (hpre148 2 rfl)
            obtain ⟨ρ1, rfl⟩ : ∃ ρ1, ρ = upds ρ1 [(2, (.pointer (some ⟨b14, 0, none⟩))), (3, (.pointer (some ⟨b29, 0, none⟩))), (5, (.int .i64 x117)), (30, (.slice a37 (List.length x36) c38)), (31, (.int .i64 x117))] := ⟨ρ, self_upds ⟨hb2, hb3, hb5, he1, he2, trivial⟩⟩
            refine WL_indexAddr (r := rApiRange) (k := .i64) (i := x117) (l := x36) (xx := x128) (hCd.immAt (i := List.length X + 1) (base_at _ rfl)) h129 Tryz.underlying27 Tryz.sizeOf68 (lt' rfl) rfl rfl (fun ad130 hE131 => ?_)
            have hC132 := hCd.elem hE131
            refine WL_nil ?_
            exact hK147 _ _ ⟨_, (_ :: X), hC132, ⟨rfl, rfl, rfl⟩, hp0, hp1, hp2, (fun _ => ⟨ad130, rfl, List.mem_cons_self⟩), hp4, hp5, hp6, hp7, (fun h => by obtain ⟨qad144, e1, m0⟩ := hp8 h; exact ⟨qad144, e1, (List.mem_cons_of_mem _ m0)⟩), hp9, hp10⟩
          · obtain rfl := Option.some.inj ho
            obtain ⟨qad142, he3, hm3_0⟩ := hp3 (hpre148 3 rfl)
            obtain ⟨ix0, hix0⟩ := at_mem (Lb := [.imm rGlob [] (), .imm (Rp.sl rApiRange) [.slice a37 (List.length x36) c38] x36, .imm (Rp.sl rU8) [.slice a45 (List.length x44) c46] x44, .imm (Rp.sl rApiRange) [.slice a52 (List.length x51) c53] x51, .imm (Rp.sl rU8) [.slice a60 (List.length x59) c61] x59, .box b14 [(vstr x33), (.int .i64 x34), (vstr x35), (.slice a37 (List.length x36) c38), (.int .i64 x40), (.int .i64 x41), (.bool x42), (.int .u8 ((UInt8.toNat x43 : Nat) : Int)), (.slice a45 (List.length x44) c46)] 31, .box b29 [(vstr x48), (.int .i64 x49), (vstr x50), (.slice a52 (List.length x51) c53), (.int .i64 x55), (.int .i64 x56), (.bool x57), (.int .u8 ((UInt8.toNat x58 : Nat) : Int)), (.slice a60 (List.length x59) c61)] 31]) hm3_0
            obtain ⟨ρ1, rfl⟩ : ∃ ρ1, ρ = upds ρ1 [(2, (.pointer (some ⟨b14, 0, none⟩))), (3, (.pointer (some ⟨b29, 0, none⟩))), (5, (.int .i64 x117)), (32, (.pointer (some qad142)))] := ⟨ρ, self_upds ⟨hb2, hb3, hb5, he3, trivial⟩⟩
            refine WL_loadA (hCd.at hix0) Tryz.isAgg68 Tryz.sizeOf68 (lt' rfl) rfl (fun cs132 hv133 => ?_)
            obtain rfl := rApiRange_shape hv133
            refine WL_nil ?_
            exact hK147 _ _ ⟨_, X, hCd, ⟨rfl, rfl, rfl⟩, hp0, hp1, hp2, hp3, (fun _ => rfl), hp5, hp6, hp7, hp8, hp9, hp10⟩
          · obtain rfl := Option.some.inj ho
            obtain ⟨ρ1, rfl⟩ : ∃ ρ1, ρ = upds ρ1 [(2, (.pointer (some ⟨b14, 0, none⟩))), (3, (.pointer (some ⟨b29, 0, none⟩))), (5, (.int .i64 x117))] := ⟨ρ, self_upds ⟨hb2, hb3, hb5, trivial⟩⟩
            refine WL_fieldBox' (off' := 3) Tryz.underlying31 rfl Tryz.sizeOf27 rfl (lt' rfl) rfl ?_
            refine WL_nil ?_
            exact hK147 _ _ ⟨_, X, hCd, ⟨rfl, rfl, rfl⟩, hp0, hp1, hp2, hp3, hp4, (fun _ => rfl), hp6, hp7, hp8, hp9, hp10⟩
          · obtain rfl := Option.some.inj ho
            have he5 := hp5 (hpre148 5 rfl)
            obtain ⟨ρ1, rfl⟩ : ∃ ρ1, ρ = upds ρ1 [(2, (.pointer (some ⟨b14, 0, none⟩))), (3, (.pointer (some ⟨b29, 0, none⟩))), (5, (.int .i64 x117)), (34, (.pointer (some ⟨b29, 3, none⟩)))] := ⟨ρ, self_upds ⟨hb2, hb3, hb5, he5, trivial⟩⟩
            refine WL_loadBox (v := (.slice a52 (List.length x51) c53)) hCd (i := List.length X + 6) (base_at _ rfl) rfl Tryz.isAgg27 (lt' rfl) rfl ?_
            refine WL_nil ?_
            exact hK147 _ _ ⟨_, X, hCd, ⟨rfl, rfl, rfl⟩, hp0, hp1, hp2, hp3, hp4, hp5, (fun _ => rfl), hp7, hp8, hp9, hp10⟩
          · obtain rfl := Option.some.inj ho
            obtain ⟨ρ1, rfl⟩ : ∃ ρ1, ρ = upds ρ1 [(2, (.pointer (some ⟨b14, 0, none⟩))), (3, (.pointer (some ⟨b29, 0, none⟩))), (5, (.int .i64 x117))] := ⟨ρ, self_upds ⟨hb2, hb3, hb5, trivial⟩⟩
            refine WL_move (v := (.int .i64 x117)) (lt' rfl) rfl ?_
            refine WL_nil ?_
            exact hK147 _ _ ⟨_, X, hCd, ⟨rfl, rfl, rfl⟩, hp0, hp1, hp2, hp3, hp4, hp5, hp6, (fun _ => rfl), hp8, hp9, hp10⟩
          · obtain rfl := Option.some.inj ho
            have he6 := hp6 (hpre148 6 rfl)
            have he7 := hp7 (hpre148 7 rfl)
            obtain ⟨ρ1, rfl⟩ : ∃ ρ1, ρ = upds ρ1 [(2, (.pointer (some ⟨b14, 0, none⟩))), (3, (.pointer (some ⟨b29, 0, none⟩))), (5, (.int .i64 x117)), (35, (.slice a52 (List.length x51) c53)), (36, (.int .i64 x117))] := ⟨ρ, self_upds ⟨hb2, hb3, hb5, he6, he7, trivial⟩⟩
            refine WL_indexAddr (r := rApiRange) (k := .i64) (i := x117) (l := x51) (xx := x135) (hCd.immAt (i := List.length X + 3) (base_at _ rfl)) h136 Tryz.underlying27 Tryz.sizeOf68 (lt' rfl) rfl rfl (fun ad137 hE138 => ?_)
            have hC139 := hCd.elem hE138
            refine WL_nil ?_
            exact hK147 _ _ ⟨_, (_ :: X), hC139, ⟨rfl, rfl, rfl⟩, hp0, hp1, hp2, (fun h => by obtain ⟨qad142, e1, m0⟩ := hp3 h; exact ⟨qad142, e1, (List.mem_cons_of_mem _ m0)⟩), hp4, hp5, hp6, hp7, (fun _ => ⟨ad137, rfl, List.mem_cons_self⟩), hp9, hp10⟩
          · obtain rfl := Option.some.inj ho
            obtain ⟨qad144, he8, hm8_0⟩ := hp8 (hpre148 8 rfl)
            obtain ⟨ix0, hix0⟩ := at_mem (Lb := [.imm rGlob [] (), .imm (Rp.sl rApiRange) [.slice a37 (List.length x36) c38] x36, .imm (Rp.sl rU8) [.slice a45 (List.length x44) c46] x44, .imm (Rp.sl rApiRange) [.slice a52 (List.length x51) c53] x51, .imm (Rp.sl rU8) [.slice a60 (List.length x59) c61] x59, .box b14 [(vstr x33), (.int .i64 x34), (vstr x35), (.slice a37 (List.length x36) c38), (.int .i64 x40), (.int .i64 x41), (.bool x42), (.int .u8 ((UInt8.toNat x43 : Nat) : Int)), (.slice a45 (List.length x44) c46)] 31, .box b29 [(vstr x48), (.int .i64 x49), (vstr x50), (.slice a52 (List.length x51) c53), (.int .i64 x55), (.int .i64 x56), (.bool x57), (.int .u8 ((UInt8.toNat x58 : Nat) : Int)), (.slice a60 (List.length x59) c61)] 31]) hm8_0
            obtain ⟨ρ1, rfl⟩ : ∃ ρ1, ρ = upds ρ1 [(2, (.pointer (some ⟨b14, 0, none⟩))), (3, (.pointer (some ⟨b29, 0, none⟩))), (5, (.int .i64 x117)), (37, (.pointer (some qad144)))] := ⟨ρ, self_upds ⟨hb2, hb3, hb5, he8, trivial⟩⟩
            refine WL_loadA (hCd.at hix0) Tryz.isAgg68 Tryz.sizeOf68 (lt' rfl) rfl (fun cs139 hv140 => ?_)
            obtain rfl := rApiRange_shape hv140
            refine WL_nil ?_
            exact hK147 _ _ ⟨_, X, hCd, ⟨rfl, rfl, rfl⟩, hp0, hp1, hp2, hp3, hp4, hp5, hp6, hp7, hp8, (fun _ => rfl), hp10⟩
          · obtain rfl := Option.some.inj ho
            have he4 := hp4 (hpre148 4 rfl)
            have he9 := hp9 (hpre148 9 rfl)
            obtain ⟨ρ1, rfl⟩ : ∃ ρ1, ρ = upds ρ1 [(2, (.pointer (some ⟨b14, 0, none⟩))), (3, (.pointer (some ⟨b29, 0, none⟩))), (5, (.int .i64 x117)), (33, (.agg (List.toArray [(.int .u32 x128.Lo), (.int .u32 x128.Hi)]))), (38, (.agg (List.toArray [(.int .u32 x135.Lo), (.int .u32 x135.Hi)])))] := ⟨ρ, self_upds ⟨hb2, hb3, hb5, he4, he9, trivial⟩⟩
            refine WL_agneq (xs := (List.toArray [(.int .u32 x128.Lo), (.int .u32 x128.Hi)])) (ys := (List.toArray [(.int .u32 x135.Lo), (.int .u32 x135.Hi)])) (b := (((x128.Lo : Int) == x135.Lo) && ((x128.Hi : Int) == x135.Hi))) (by kernel_rfl) (lt' rfl) rfl rfl (eqT68 x128.Lo x128.Hi x135.Lo x135.Hi _) ?_
            refine WL_nil ?_
            exact hK147 _ _ ⟨_, X, hCd, ⟨rfl, rfl, rfl⟩, hp0, hp1, hp2, hp3, hp4, hp5, hp6, hp7, hp8, hp9, (fun _ => rfl)⟩
        · intro S149 ρ w152 hall150 hI
          obtain ⟨O151, X, hC153, ⟨hb2, hb3, hb5⟩, hp0, hp1, hp2, hp3, hp4, hp5, hp6, hp7, hp8, hp9, hp10⟩ := hI
          have he10 := hp10 (hall150 10 (by decide))
          obtain ⟨ρ1, rfl⟩ : ∃ ρ1, ρ = upds ρ1 [(2, (.pointer (some ⟨b14, 0, none⟩))), (3, (.pointer (some ⟨b29, 0, none⟩))), (5, (.int .i64 x117)), (39, (.bool (!(((x128.Lo : Int) == x135.Lo) && ((x128.Hi : Int) == x135.Hi)))))] := ⟨ρ, self_upds ⟨hb2, hb3, hb5, he10, trivial⟩⟩
          have hC154 := hC153.ofX (Ln := []) (by intro f hf; cases hf) (by simp [Fact.own])
          refine WL_nil ?_
          refine W_cond (t := (!(((x128.Lo : Int) == x135.Lo) && ((x128.Hi : Int) == x135.Hi)))) rfl (fun h155 => ?_) (fun h155 => ?_)
          · have H := iteT h155 H
            refine W_seq ?_
            refine W_region ?_
            refine WL_assign (v := (.bool false)) (lt' rfl) rfl ?_
            refine WL_nil ?_
            refine W_ret ?_
            obtain rfl := Option.some.inj H
            exact Exists.intro () (And.intro rfl (And.intro hC154.keep trivial))
          · have H := iteF h155 H
            refine W_skip ?_
            refine W_region ?_
            refine WL_move (v := (.int .i64 x117)) (lt' rfl) rfl ?_
            refine WL_iadd (a := (x117 : Int)) (b := (1 : Int)) (lt' rfl) rfl rfl ?_
            refine WL_assign (v := (.int .i64 (IntKind.wrap .i64 ((x117 : Int) + (1 : Int))))) (lt' rfl) rfl ?_
            refine WL_nil ?_
            exact ih125 (IntKind.wrap .i64 ((x117 : Int) + (1 : Int))) _ _ H ⟨_, _, self_upds ⟨rfl, rfl, rfl, trivial⟩, hC154.pick [0, 1, 2, 3, 4, 5, 6] (by decide) rfl⟩
      · have H := iteF h127 H
        refine W_exit ?_
        exact kj115 () _ _ ⟨_, _, self_upds ⟨rfl, rfl, trivial⟩, hC120.pick [0, 1, 2, 3, 4, 5, 6] (by decide) rfl, H⟩
    · rintro - - w114 ⟨ρ0, O113, rfl, hC112, H⟩
      refine W_joinS Unit (fun (_ : Unit) (ρ : Env) (w : World) => ∃ (x156 : Bool) (ρ0 : Env) (O : List Nat), ρ = upds ρ0 [(4, (.bool x156))] ∧ Ctx O0 [] w0 O w [.imm rGlob [] ()] ∧ F_ref07_Same_j4 N   x156 = some y) (fun K161 kj160 => ?_) ?_
      · skip
        refine W_region ?_
        refine WL_fieldBox' (off' := 0) Tryz.underlying31 rfl Tryz.sizeOf9 rfl (lt' rfl) rfl ?_
        refine WL_loadBox (v := (vstr x33)) hC112 (i := 5) rfl rfl Tryz.isAgg9 (lt' rfl) rfl ?_
        refine WL_fieldBox' (off' := 0) Tryz.underlying31 rfl Tryz.sizeOf9 rfl (lt' rfl) rfl ?_
        refine WL_loadBox (v := (vstr x48)) hC112 (i := 6) rfl rfl Tryz.isAgg9 (lt' rfl) rfl ?_
        refine WL_seql (a := x33) (b := x48) (lt' rfl) rfl rfl ?_
        refine WL_move (v := (.bool ((x33 : List UInt8) == x48))) (lt' rfl) rfl ?_
        rcases Bool.eq_false_or_eq_true ((x33 : List UInt8) == x48) with h162 | h162
        · have H := iteT h162 H
          refine WL_yes rfl rfl rfl h162 ?_
          refine WL_fieldBox' (off' := 1) Tryz.underlying31 rfl Tryz.sizeOf3 rfl (lt' rfl) rfl ?_
          refine WL_yes rfl rfl rfl h162 ?_
          refine WL_loadBox (v := (.int .i64 x34)) hC112 (i := 5) rfl rfl Tryz.isAgg3 (lt' rfl) rfl ?_
          refine WL_yes rfl rfl rfl h162 ?_
          refine WL_fieldBox' (off' := 1) Tryz.underlying31 rfl Tryz.sizeOf3 rfl (lt' rfl) rfl ?_
          refine WL_yes rfl rfl rfl h162 ?_
          refine WL_loadBox (v := (.int .i64 x49)) hC112 (i := 6) rfl rfl Tryz.isAgg3 (lt' rfl) rfl ?_
          refine WL_yes rfl rfl rfl h162 ?_
          refine WL_ieql (a := (x34 : Int)) (b := (x49 : Int)) (lt' rfl) rfl rfl ?_
          refine WL_pickT (v := (.bool ((x34 : Int) == (x49 : Int)))) (lt' rfl) (by show Value.bool _ = _; rw [h162]) rfl ?_
          refine WL_move (v := (.bool ((x34 : Int) == (x49 : Int)))) (lt' rfl) rfl ?_
          rcases Bool.eq_false_or_eq_true ((x34 : Int) == (x49 : Int)) with h163 | h163
          · have H := iteT h163 H
            refine WL_yes rfl rfl rfl h163 ?_
            refine WL_fieldBox' (off' := 2) Tryz.underlying31 rfl Tryz.sizeOf9 rfl (lt' rfl) rfl ?_
            refine WL_yes rfl rfl rfl h163 ?_
            refine WL_loadBox (v := (vstr x35)) hC112 (i := 5) rfl rfl Tryz.isAgg9 (lt' rfl) rfl ?_
            refine WL_yes rfl rfl rfl h163 ?_
            refine WL_fieldBox' (off' := 2) Tryz.underlying31 rfl Tryz.sizeOf9 rfl (lt' rfl) rfl ?_
            refine WL_yes rfl rfl rfl h163 ?_
            refine WL_loadBox (v := (vstr x50)) hC112 (i := 6) rfl rfl Tryz.isAgg9 (lt' rfl) rfl ?_
            refine WL_yes rfl rfl rfl h163 ?_
            refine WL_seql (a := x35) (b := x50) (lt' rfl) rfl rfl ?_
            refine WL_pickT (v := (.bool ((x35 : List UInt8) == x50))) (lt' rfl) (by show Value.bool _ = _; rw [h163]) rfl ?_
            refine WL_move (v := (.bool ((x35 : List UInt8) == x50))) (lt' rfl) rfl ?_
            rcases Bool.eq_false_or_eq_true ((x35 : List UInt8) == x50) with h164 | h164
            · have H := iteT h164 H
              refine WL_yes rfl rfl rfl h164 ?_
              refine WL_fieldBox' (off' := 4) Tryz.underlying31 rfl Tryz.sizeOf3 rfl (lt' rfl) rfl ?_
              refine WL_yes rfl rfl rfl h164 ?_
              refine WL_loadBox (v := (.int .i64 x40)) hC112 (i := 5) rfl rfl Tryz.isAgg3 (lt' rfl) rfl ?_
              refine WL_yes rfl rfl rfl h164 ?_
              refine WL_fieldBox' (off' := 4) Tryz.underlying31 rfl Tryz.sizeOf3 rfl (lt' rfl) rfl ?_
              refine WL_yes rfl rfl rfl h164 ?_
              refine WL_loadBox (v := (.int .i64 x55)) hC112 (i := 6) rfl rfl Tryz.isAgg3 (lt' rfl) rfl ?_
              refine WL_yes rfl rfl rfl h164 ?_
              refine WL_ieql (a := (x40 : Int)) (b := (x55 : Int)) (lt' rfl) rfl rfl ?_
              refine WL_pickT (v := (.bool ((x40 : Int) == (x55 : Int)))) (lt' rfl) (by show Value.bool _ = _; rw [h164]) rfl ?_
              refine WL_move (v := (.bool ((x40 : Int) == (x55 : Int)))) (lt' rfl) rfl ?_
              rcases Bool.eq_false_or_eq_true ((x40 : Int) == (x55 : Int)) with h165 | h165
              · have H := iteT h165 H
                refine WL_yes rfl rfl rfl h165 ?_
                refine WL_fieldBox' (off' := 5) Tryz.underlying31 rfl Tryz.sizeOf3 rfl (lt' rfl) rfl ?_
                refine WL_yes rfl rfl rfl h165 ?_
                refine WL_loadBox (v := (.int .i64 x41)) hC112 (i := 5) rfl rfl Tryz.isAgg3 (lt' rfl) rfl ?_
                refine WL_yes rfl rfl rfl h165 ?_
                refine WL_fieldBox' (off' := 5) Tryz.underlying31 rfl Tryz.sizeOf3 rfl (lt' rfl) rfl ?_
                refine WL_yes rfl rfl rfl h165 ?_
                refine WL_loadBox (v := (.int .i64 x56)) hC112 (i := 6) rfl rfl Tryz.isAgg3 (lt' rfl) rfl ?_
                refine WL_yes rfl rfl rfl h165 ?_
                refine WL_ieql (a := (x41 : Int)) (b := (x56 : Int)) (lt' rfl) rfl rfl ?_
                refine WL_pickT (v := (.bool ((x41 : Int) == (x56 : Int)))) (lt' rfl) (by show Value.bool _ = _; rw [h165]) rfl ?_
                refine WL_move (v := (.bool ((x41 : Int) == (x56 : Int)))) (lt' rfl) rfl ?_
                rcases Bool.eq_false_or_eq_true ((x41 : Int) == (x56 : Int)) with h166 | h166
                · have H := iteT h166 H
                  refine WL_yes rfl rfl rfl h166 ?_
                  refine WL_fieldBox' (off' := 6) Tryz.underlying31 rfl Tryz.sizeOf4 rfl (lt' rfl) rfl ?_
                  refine WL_yes rfl rfl rfl h166 ?_
                  refine WL_loadBox (v := (.bool x42)) hC112 (i := 5) rfl rfl Tryz.isAgg4 (lt' rfl) rfl ?_
                  refine WL_yes rfl rfl rfl h166 ?_
                  refine WL_fieldBox' (off' := 6) Tryz.underlying31 rfl Tryz.sizeOf4 rfl (lt' rfl) rfl ?_
                  refine WL_yes rfl rfl rfl h166 ?_
                  refine WL_loadBox (v := (.bool x57)) hC112 (i := 6) rfl rfl Tryz.isAgg4 (lt' rfl) rfl ?_
                  refine WL_yes rfl rfl rfl h166 ?_
                  refine WL_teql (a := x42) (b := x57) Tryz.underlying4 (lt' rfl) rfl rfl ?_
                  refine WL_pickT (v := (.bool (x42 == x57))) (lt' rfl) (by show Value.bool _ = _; rw [h166]) rfl ?_
                  refine WL_move (v := (.bool (x42 == x57))) (lt' rfl) rfl ?_
                  rcases Bool.eq_false_or_eq_true (x42 == x57) with h167 | h167
                  · have H := iteT h167 H
                    refine WL_yes rfl rfl rfl h167 ?_
                    refine WL_fieldBox' (off' := 7) Tryz.underlying31 rfl Tryz.sizeOf28 rfl (lt' rfl) rfl ?_
                    refine WL_yes rfl rfl rfl h167 ?_
                    refine WL_loadBox (v := (.int .u8 ((UInt8.toNat x43 : Nat) : Int))) hC112 (i := 5) rfl rfl Tryz.isAgg28 (lt' rfl) rfl ?_
                    refine WL_yes rfl rfl rfl h167 ?_
                    refine WL_fieldBox' (off' := 7) Tryz.underlying31 rfl Tryz.sizeOf28 rfl (lt' rfl) rfl ?_
                    refine WL_yes rfl rfl rfl h167 ?_
                    refine WL_loadBox (v := (.int .u8 ((UInt8.toNat x58 : Nat) : Int))) hC112 (i := 6) rfl rfl Tryz.isAgg28 (lt' rfl) rfl ?_
                    refine WL_yes rfl rfl rfl h167 ?_
                    refine WL_beql (a := (x43 : UInt8)) (b := (x58 : UInt8)) (lt' rfl) rfl rfl ?_
                    refine WL_pickT (v := (.bool ((x43 : UInt8) == (x58 : UInt8)))) (lt' rfl) (by show Value.bool _ = _; rw [h167]) rfl ?_
                    refine WL_assign (v := (.bool ((x43 : UInt8) == (x58 : UInt8)))) (lt' rfl) rfl ?_
                    refine WL_nil ?_
                    exact kj160 () _ _ ⟨((x43 : UInt8) == (x58 : UInt8)), _, _, self_upds ⟨rfl, trivial⟩, hC112.pick [0] (by decide) rfl, H⟩
                  · have H := iteF h167 H
                    refine WL_no rfl rfl rfl (by rw [h167]; rfl) (lt' rfl) ?_
                    refine WL_no rfl rfl rfl (by rw [h167]; rfl) (lt' rfl) ?_
                    refine WL_no rfl rfl rfl (by rw [h167]; rfl) (lt' rfl) ?_
                    refine WL_no rfl rfl rfl (by rw [h167]; rfl) (lt' rfl) ?_
                    refine WL_no rfl rfl rfl (by rw [h167]; rfl) (lt' rfl) ?_
                    refine WL_pickF (v := (.bool false)) (lt' rfl) (by show Value.bool _ = _; rw [h167]) rfl ?_
                    refine WL_assign (v := (.bool false)) (lt' rfl) rfl ?_
                    refine WL_nil ?_
                    exact kj160 () _ _ ⟨false, _, _, self_upds ⟨rfl, trivial⟩, hC112.pick [0] (by decide) rfl, H⟩
                · have H := iteF h166 H
                  refine WL_no rfl rfl rfl (by rw [h166]; rfl) (lt' rfl) ?_
                  refine WL_no rfl rfl rfl (by rw [h166]; rfl) (lt' rfl) ?_
                  refine WL_no rfl rfl rfl (by rw [h166]; rfl) (lt' rfl) ?_
                  refine WL_no rfl rfl rfl (by rw [h166]; rfl) (lt' rfl) ?_
                  refine WL_no rfl rfl rfl (by rw [h166]; rfl) (lt' rfl) ?_
                  refine WL_pickF (v := (.bool false)) (lt' rfl) (by show Value.bool _ = _; rw [h166]) rfl ?_
                  refine WL_move (v := (.bool false)) (lt' rfl) rfl ?_
                  refine WL_no rfl rfl rfl rfl (lt' rfl) ?_
                  refine WL_no rfl rfl rfl rfl (lt' rfl) ?_
                  refine WL_no rfl rfl rfl rfl (lt' rfl) ?_
                  refine WL_no rfl rfl rfl rfl (lt' rfl) ?_
                  refine WL_no rfl rfl rfl rfl (lt' rfl) ?_
                  refine WL_pickF (v := (.bool false)) (lt' rfl) rfl rfl ?_
                  refine WL_assign (v := (.bool false)) (lt' rfl) rfl ?_
                  refine WL_nil ?_
                  exact kj160 () _ _ ⟨false, _, _, self_upds ⟨rfl, trivial⟩, hC112.pick [0] (by decide) rfl, H⟩
              · have H := iteF h165 H
                refine WL_no rfl rfl rfl (by rw [h165]; rfl) (lt' rfl) ?_
                refine WL_no rfl rfl rfl (by rw [h165]; rfl) (lt' rfl) ?_
                refine WL_no rfl rfl rfl (by rw [h165]; rfl) (lt' rfl) ?_
                refine WL_no rfl rfl rfl (by rw [h165]; rfl) (lt' rfl) ?_
                refine WL_no rfl rfl rfl (by rw [h165]; rfl) (lt' rfl) ?_
                refine WL_pickF (v := (.bool false)) (lt' rfl) (by show Value.bool _ = _; rw [h165]) rfl ?_
                refine WL_move (v := (.bool false)) (lt' rfl) rfl ?_
                refine WL_no rfl rfl rfl rfl (lt' rfl) ?_
                refine WL_no rfl rfl rfl rfl (lt' rfl) ?_
                refine WL_no rfl rfl rfl rfl (lt' rfl) ?_
                refine WL_no rfl rfl rfl rfl (lt' rfl) ?_
                refine WL_no rfl rfl rfl rfl (lt' rfl) ?_
                refine WL_pickF (v := (.bool false)) (lt' rfl) rfl rfl ?_
                refine WL_move (v := (.bool false)) (lt' rfl) rfl ?_
                refine WL_no rfl rfl rfl rfl (lt' rfl) ?_
                refine WL_no rfl rfl rfl rfl (lt' rfl) ?_
                refine WL_no rfl rfl rfl rfl (lt' rfl) ?_
                refine WL_no rfl rfl rfl rfl (lt' rfl) ?_
                refine WL_no rfl rfl rfl rfl (lt' rfl) ?_
                refine WL_pickF (v := (.bool false)) (lt' rfl) rfl rfl ?_
                refine WL_assign (v := (.bool false)) (lt' rfl) rfl ?_
                refine WL_nil ?_
                exact kj160 () _ _ ⟨false, _, _, self_upds ⟨rfl, trivial⟩, hC112.pick [0] (by decide) rfl, H⟩
            · have H := iteF h164 H
              refine WL_no rfl rfl rfl (by rw [h164]; rfl) (lt' rfl) ?_
              refine WL_no rfl rfl rfl (by rw [h164]; rfl) (lt' rfl) ?_
              refine WL_no rfl rfl rfl (by rw [h164]; rfl) (lt' rfl) ?_
              refine WL_no rfl rfl rfl (by rw [h164]; rfl) (lt' rfl) ?_
              refine WL_no rfl rfl rfl (by rw [h164]; rfl) (lt' rfl) ?_
              refine WL_pickF (v := (.bool false)) (lt' rfl) (by show Value.bool _ = _; rw [h164]) rfl ?_
              refine WL_move (v := (.bool false)) (lt' rfl) rfl ?_
              refine WL_no rfl rfl rfl rfl (lt' rfl) ?_
              refine WL_no rfl rfl rfl rfl (lt' rfl) ?_
              refine WL_no rfl rfl rfl rfl (lt' rfl) ?_
              refine WL_no rfl rfl rfl rfl (lt' rfl) ?_
              refine WL_no rfl rfl rfl rfl (lt' rfl) ?_
              refine WL_pickF (v := (.bool false)) (lt' rfl) rfl rfl ?_
              refine WL_move (v := (.bool false)) (lt' rfl) rfl ?_
              refine WL_no rfl rfl rfl rfl (lt' rfl) ?_
              refine WL_no rfl rfl rfl rfl (lt' rfl) ?_
              refine WL_no rfl rfl rfl rfl (lt' rfl) ?_
              refine WL_no rfl rfl rfl rfl (lt' rfl) ?_
              refine WL_no rfl rfl rfl rfl (lt' rfl) ?_
              refine WL_pickF (v := (.bool false)) (lt' rfl) rfl rfl ?_
              refine WL_move (v := (.bool false)) (lt' rfl) rfl ?_
              refine WL_no rfl rfl rfl rfl (lt' rfl) ?_
              refine WL_no rfl rfl rfl rfl (lt' rfl) ?_
              refine WL_no rfl rfl rfl rfl (lt' rfl) ?_
              refine WL_no rfl rfl rfl rfl (lt' rfl) ?_
              refine WL_no rfl rfl rfl rfl (lt' rfl) ?_
              refine WL_pickF (v := (.bool false)) (lt' rfl) rfl rfl ?_
              refine WL_assign (v := (.bool false)) (lt' rfl) rfl ?_
              refine WL_nil ?_
              exact kj160 () _ _ ⟨false, _, _, self_upds ⟨rfl, trivial⟩, hC112.pick [0] (by decide) rfl, H⟩
          · have H := iteF h163 H
            refine WL_no rfl rfl rfl (by rw [h163]; rfl) (lt' rfl) ?_
            refine WL_no rfl rfl rfl (by rw [h163]; rfl) (lt' rfl) ?_
            refine WL_no rfl rfl rfl (by rw [h163]; rfl) (lt' rfl) ?_
            refine WL_no rfl rfl rfl (by rw [h163]; rfl) (lt' rfl) ?_
            refine WL_no rfl rfl rfl (by rw [h163]; rfl) (lt' rfl) ?_
            refine WL_pickF (v := (.bool false)) (lt' rfl) (by show Value.bool _ = _; rw [h163]) rfl ?_
            refine WL_move (v := (.bool false)) (lt' rfl) rfl ?_
            refine WL_no rfl rfl rfl rfl (lt' rfl) ?_
            refine WL_no rfl rfl rfl rfl (lt' rfl) ?_
            refine WL_no rfl rfl rfl rfl (lt' rfl) ?_
            refine WL_no rfl rfl rfl rfl (lt' rfl) ?_
            refine WL_no rfl rfl rfl rfl (lt' rfl) ?_
            refine WL_pickF (v := (.bool false)) (lt' rfl) rfl rfl ?_
            refine WL_move (v := (.bool false)) (lt' rfl) rfl ?_
            refine WL_no rfl rfl rfl rfl (lt' rfl) ?_
            refine WL_no rfl rfl rfl rfl (lt' rfl) ?_
            refine WL_no rfl rfl rfl rfl (lt' rfl) ?_
            refine WL_no rfl rfl rfl rfl (lt' rfl) ?_
            refine WL_no rfl rfl rfl rfl (lt' rfl) ?_
            refine WL_pickF (v := (.bool false)) (lt' rfl) rfl rfl ?_
            refine WL_move (v := (.bool false)) (lt' rfl) rfl ?_
            refine WL_no rfl rfl rfl rfl (lt' rfl) ?_
            refine WL_no rfl rfl rfl rfl (lt' rfl) ?_
            refine WL_no rfl rfl rfl rfl (lt' rfl) ?_
            refine WL_no rfl rfl rfl rfl (lt' rfl) ?_
            refine WL_no rfl rfl rfl rfl (lt' rfl) ?_
            refine WL_pickF (v := (.bool false)) (lt' rfl) rfl rfl ?_
            refine WL_move (v := (.bool false)) (lt' rfl) rfl ?_
            refine WL_no rfl rfl rfl rfl (lt' rfl) ?_
            refine WL_no rfl rfl rfl rfl (lt' rfl) ?_
            refine WL_no rfl rfl rfl rfl (lt' rfl) ?_
            refine WL_no rfl rfl rfl rfl (lt' rfl) ?_
            refine WL_no rfl rfl rfl rfl (lt' rfl) ?_
            refine WL_pickF (v := (.bool false)) (lt' rfl) rfl rfl ?_
            refine WL_assign (v := (.bool false)) (lt' rfl) rfl ?_
            refine WL_nil ?_
            exact kj160 () _ _ ⟨false, _, _, self_upds ⟨rfl, trivial⟩, hC112.pick [0] (by decide) rfl, H⟩
        · have H := iteF h162 H
          refine WL_no rfl rfl rfl (by rw [h162]; rfl) (lt' rfl) ?_
          refine WL_no rfl rfl rfl (by rw [h162]; rfl) (lt' rfl) ?_
          refine WL_no rfl rfl rfl (by rw [h162]; rfl) (lt' rfl) ?_
          refine WL_no rfl rfl rfl (by rw [h162]; rfl) (lt' rfl) ?_
          refine WL_no rfl rfl rfl (by rw [h162]; rfl) (lt' rfl) ?_
          refine WL_pickF (v := (.bool false)) (lt' rfl) (by show Value.bool _ = _; rw [h162]) rfl ?_
          refine WL_move (v := (.bool false)) (lt' rfl) rfl ?_
          refine WL_no rfl rfl rfl rfl (lt' rfl) ?_
          refine WL_no rfl rfl rfl rfl (lt' rfl) ?_
          refine WL_no rfl rfl rfl rfl (lt' rfl) ?_
          refine WL_no rfl rfl rfl rfl (lt' rfl) ?_
          refine WL_no rfl rfl rfl rfl (lt' rfl) ?_
          refine WL_pickF (v := (.bool false)) (lt' rfl) rfl rfl ?_
          refine WL_move (v := (.bool false)) (lt' rfl) rfl ?_
          refine WL_no rfl rfl rfl rfl (lt' rfl) ?_
          refine WL_no rfl rfl rfl rfl (lt' rfl) ?_
          refine WL_no rfl rfl rfl rfl (lt' rfl) ?_
          refine WL_no rfl rfl rfl rfl (lt' rfl) ?_
          refine WL_no rfl rfl rfl rfl (lt' rfl) ?_
          refine WL_pickF (v := (.bool false)) (lt' rfl) rfl rfl ?_
          refine WL_move (v := (.bool false)) (lt' rfl) rfl ?_
          refine WL_no rfl rfl rfl rfl (lt' rfl) ?_
          refine WL_no rfl rfl rfl rfl (lt' rfl) ?_
          refine WL_no rfl rfl rfl rfl (lt' rfl) ?_
          refine WL_no rfl rfl rfl rfl (lt' rfl) ?_
          refine WL_no rfl rfl rfl rfl (lt' rfl) ?_
          refine WL_pickF (v := (.bool false)) (lt' rfl) rfl rfl ?_
          refine WL_move (v := (.bool false)) (lt' rfl) rfl ?_
          refine WL_no rfl rfl rfl rfl (lt' rfl) ?_
          refine WL_no rfl rfl rfl rfl (lt' rfl) ?_
          refine WL_no rfl rfl rfl rfl (lt' rfl) ?_
          refine WL_no rfl rfl rfl rfl (lt' rfl) ?_
          refine WL_no rfl rfl rfl rfl (lt' rfl) ?_
          refine WL_pickF (v := (.bool false)) (lt' rfl) rfl rfl ?_
          refine WL_move (v := (.bool false)) (lt' rfl) rfl ?_
          refine WL_no rfl rfl rfl rfl (lt' rfl) ?_
          refine WL_no rfl rfl rfl rfl (lt' rfl) ?_
          refine WL_no rfl rfl rfl rfl (lt' rfl) ?_
          refine WL_no rfl rfl rfl rfl (lt' rfl) ?_
          refine WL_no rfl rfl rfl rfl (lt' rfl) ?_
          refine WL_pickF (v := (.bool false)) (lt' rfl) rfl rfl ?_
          refine WL_assign (v := (.bool false)) (lt' rfl) rfl ?_
          refine WL_nil ?_
          exact kj160 () _ _ ⟨false, _, _, self_upds ⟨rfl, trivial⟩, hC112.pick [0] (by decide) rfl, H⟩
      · rintro - - w159 ⟨x156, ρ0, O158, rfl, hC157, H⟩
        refine W_ret ?_
        obtain rfl := Option.some.inj H
        exact Exists.intro () (And.intro rfl (And.intro hC157.keep trivial))

-- cubbyhole/cubbyholelaw07.CommandSame
def F_law07_CommandSame_j3 (N : Nat) (x125 : Bool) : Option Bool :=
  some x125
def F_law07_CommandSame_j1 (N : Nat) (x33 : List UInt8) (x34 : Int) (x35 : List UInt8) (x36 : List ApiRange) (x40 : Int) (x41 : Int) (x42 : Bool) (x43 : UInt8) (x44 : List UInt8) (x48 : List UInt8) (x49 : Int) (x50 : List UInt8) (x51 : List ApiRange) (x55 : Int) (x56 : Int) (x57 : Bool) (x58 : UInt8) (x59 : List UInt8) : Option Bool :=
  Option.bind (F_law07_alive N ) fun y131 => (if y131 = true then Option.bind (F_command_Same N (ApiCommand.mk x33 x34 x35 x36 x40 x41 x42 x43 x44) (ApiCommand.mk x48 x49 x50 x51 x55 x56 x57 x58 x59)) fun y137 => Option.bind (F_ref07_Same N (ApiCommand.mk x33 x34 x35 x36 x40 x41 x42 x43 x44) (ApiCommand.mk x48 x49 x50 x51 x55 x56 x57 x58 x59)) fun y142 => (if (y137 == y142) = true then Option.bind (F_command_Same N (ApiCommand.mk x33 x34 x35 x36 x40 x41 x42 x43 x44) (ApiCommand.mk x33 x34 x35 x36 x40 x41 x42 x43 x44)) fun y148 => F_law07_CommandSame_j3 N   y148 else F_law07_CommandSame_j3 N   false) else F_law07_CommandSame_j3 N   false)
def F_law07_CommandSame_j2 (N : Nat) (x70 : List UInt8) (x71 : Int) (x72 : List UInt8) (x73 : List ApiRange) (x77 : Int) (x78 : Int) (x79 : Bool) (x80 : UInt8) (x81 : List UInt8) (x85 : List UInt8) (x86 : Int) (x87 : List UInt8) (x88 : List ApiRange) (x92 : Int) (x93 : Int) (x94 : Bool) (x95 : UInt8) (x96 : List UInt8) (x100 : Bool) : Option Bool :=
  (if x100 = true then Option.bind (F_law07_alive N ) fun y120 => some y120 else F_law07_CommandSame_j1 N   x70 x71 x72 x73 x77 x78 x79 x80 x81 x85 x86 x87 x88 x92 x93 x94 x95 x96)
def F_law07_CommandSame (N : Nat) (p0 : ApiCommand) (p1 : ApiCommand) : Option Bool :=
  Option.bind (F_ref07_Few N (ApiCommand.mk p0.Tag p0.Kind p0.Mailbox p0.Set p0.Items p0.Mode p0.Silent p0.Flags p0.Data)) fun y108 => (if (!y108) = true then F_law07_CommandSame_j2 N   p0.Tag p0.Kind p0.Mailbox p0.Set p0.Items p0.Mode p0.Silent p0.Flags p0.Data p1.Tag p1.Kind p1.Mailbox p1.Set p1.Items p1.Mode p1.Silent p1.Flags p1.Data true else Option.bind (F_ref07_Few N (ApiCommand.mk p1.Tag p1.Kind p1.Mailbox p1.Set p1.Items p1.Mode p1.Silent p1.Flags p1.Data)) fun y114 => F_law07_CommandSame_j2 N   p0.Tag p0.Kind p0.Mailbox p0.Set p0.Items p0.Mode p0.Silent p0.Flags p0.Data p1.Tag p1.Kind p1.Mailbox p1.Set p1.Items p1.Mode p1.Silent p1.Flags p1.Data (!y114))
set_option maxRecDepth 100000 in
set_option maxHeartbeats 4000000 in
theorem f5_ok (N : Nat) {O0 : List Nat} {w0 : World} (hO : ∀ b, b ∈ O0 → b < w0.heap.size) (hG : rGlob.rel O0 w0 [] ()) (pcs0 : List Value) (p0 : ApiCommand) (ph0 : Rp.rel rApiCommand O0 w0 pcs0 p0) (pcs1 : List Value) (p1 : ApiCommand) (ph1 : Rp.rel rApiCommand O0 w0 pcs1 p1) (y : Bool) (H : F_law07_CommandSame N p0 p1 = some y) :
    Calls Tryz.prog 5 (List.toArray [(.agg (List.toArray pcs0)), (.agg (List.toArray pcs1))]) w0 fun e w => ∃ z : Unit, e = .returned (.bool y) ∧ Keep [] w0 w ∧ True := by
  have hNK : ∀ b : Nat, b ∈ ([] : List Nat) → False := by intro b h; cases h
  have hC := ((((Ctx.start hO).imm hG).imm ph0).imm ph1)
  refine calls_of_W (ts := [4]) Tryz.func5 rfl rfl Tryz.ntmps5 (Nat.le_of_ble_eq_true rfl) ?_
  refine W_seq ?_
  refine W_region ?_
  have hx9 := hC.immAt (i := 1) rfl
  obtain ⟨a3, c4, a6, c7, rfl, hs5, hs8⟩ := rApiCommand_shape hx9
  have hC10 := hC.imm hs5
  have hC12 := hC10.imm hs8
  refine WL_box (cells := [(vstr p0.Tag), (.int .i64 p0.Kind), (vstr p0.Mailbox), (.slice a3 (List.length p0.Set) c4), (.int .i64 p0.Items), (.int .i64 p0.Mode), (.bool p0.Silent), (.int .u8 ((UInt8.toNat p0.Flags : Nat) : Int)), (.slice a6 (List.length p0.Data) c7)]) hC12 (lt' rfl) rfl rfl (fun b14 w15 hC16 => ?_)
  have hx24 := hC16.immAt (i := 3) rfl
  obtain ⟨a18, c19, a21, c22, rfl, hs20, hs23⟩ := rApiCommand_shape hx24
  have hC25 := hC16.imm hs20
  have hC27 := hC25.imm hs23
  refine WL_box (cells := [(vstr p1.Tag), (.int .i64 p1.Kind), (vstr p1.Mailbox), (.slice a18 (List.length p1.Set) c19), (.int .i64 p1.Items), (.int .i64 p1.Mode), (.bool p1.Silent), (.int .u8 ((UInt8.toNat p1.Flags : Nat) : Int)), (.slice a21 (List.length p1.Data) c22)]) hC27 (lt' rfl) rfl rfl (fun b29 w30 hC31 => ?_)
  refine WL_assign (v := (.bool false)) (lt' rfl) rfl ?_
  refine WL_nil ?_
  refine W_joinS Unit (fun (_ : Unit) (ρ : Env) (w : World) => ∃ (x33 : List UInt8) (x34 : Int) (x35 : List UInt8) (x36 : List ApiRange) (x40 : Int) (x41 : Int) (x42 : Bool) (x43 : UInt8) (x44 : List UInt8) (x48 : List UInt8) (x49 : Int) (x50 : List UInt8) (x51 : List ApiRange) (x55 : Int) (x56 : Int) (x57 : Bool) (x58 : UInt8) (x59 : List UInt8) (a37 : Option Addr) (c38 : Nat) (a45 : Option Addr) (c46 : Nat) (a52 : Option Addr) (c53 : Nat) (a60 : Option Addr) (c61 : Nat) (ρ0 : Env) (O : List Nat), ρ = upds ρ0 [(2, (.pointer (some ⟨b14, 0, none⟩))), (3, (.pointer (some ⟨b29, 0, none⟩)))] ∧ Ctx O0 [] w0 O w [.imm rGlob [] (), .imm (Rp.sl rApiRange) [.slice a37 (List.length x36) c38] x36, .imm (Rp.sl rU8) [.slice a45 (List.length x44) c46] x44, .imm (Rp.sl rApiRange) [.slice a52 (List.length x51) c53] x51, .imm (Rp.sl rU8) [.slice a60 (List.length x59) c61] x59, .box b14 [(vstr x33), (.int .i64 x34), (vstr x35), (.slice a37 (List.length x36) c38), (.int .i64 x40), (.int .i64 x41), (.bool x42), (.int .u8 ((UInt8.toNat x43 : Nat) : Int)), (.slice a45 (List.length x44) c46)] 31, .box b29 [(vstr x48), (.int .i64 x49), (vstr x50), (.slice a52 (List.length x51) c53), (.int .i64 x55), (.int .i64 x56), (.bool x57), (.int .u8 ((UInt8.toNat x58 : Nat) : Int)), (.slice a60 (List.length x59) c61)] 31] ∧ F_law07_CommandSame_j1 N   x33 x34 x35 x36 x40 x41 x42 x43 x44 x48 x49 x50 x51 x55 x56 x57 x58 x59 = some y) (fun K69 kj68 => ?_) ?_
  · skip
    refine W_joinS Unit (fun (_ : Unit) (ρ : Env) (w : World) => ∃ (x70 : List UInt8) (x71 : Int) (x72 : List UInt8) (x73 : List ApiRange) (x77 : Int) (x78 : Int) (x79 : Bool) (x80 : UInt8) (x81 : List UInt8) (x85 : List UInt8) (x86 : Int) (x87 : List UInt8) (x88 : List ApiRange) (x92 : Int) (x93 : Int) (x94 : Bool) (x95 : UInt8) (x96 : List UInt8) (x100 : Bool) (a74 : Option Addr) (c75 : Nat) (a82 : Option Addr) (c83 : Nat) (a89 : Option Addr) (c90 : Nat) (a97 : Option Addr) (c98 : Nat) (ρ0 : Env) (O : List Nat), ρ = upds ρ0 [(2, (.pointer (some ⟨b14, 0, none⟩))), (3, (.pointer (some ⟨b29, 0, none⟩))), (12, (.bool x100))] ∧ Ctx O0 [] w0 O w [.imm rGlob [] (), .imm (Rp.sl rApiRange) [.slice a74 (List.length x73) c75] x73, .imm (Rp.sl rU8) [.slice a82 (List.length x81) c83] x81, .imm (Rp.sl rApiRange) [.slice a89 (List.length x88) c90] x88, .imm (Rp.sl rU8) [.slice a97 (List.length x96) c98] x96, .box b14 [(vstr x70), (.int .i64 x71), (vstr x72), (.slice a74 (List.length x73) c75), (.int .i64 x77), (.int .i64 x78), (.bool x79), (.int .u8 ((UInt8.toNat x80 : Nat) : Int)), (.slice a82 (List.length x81) c83)] 31, .box b29 [(vstr x85), (.int .i64 x86), (vstr x87), (.slice a89 (List.length x88) c90), (.int .i64 x92), (.int .i64 x93), (.bool x94), (.int .u8 ((UInt8.toNat x95 : Nat) : Int)), (.slice a97 (List.length x96) c98)] 31] ∧ F_law07_CommandSame_j2 N   x70 x71 x72 x73 x77 x78 x79 x80 x81 x85 x86 x87 x88 x92 x93 x94 x95 x96 x100 = some y) (fun K107 kj106 => ?_) ?_
    · skip
      refine W_region ?_
      refine WL_loadBoxA (cs := [(vstr p0.Tag), (.int .i64 p0.Kind), (vstr p0.Mailbox), (.slice a3 (List.length p0.Set) c4), (.int .i64 p0.Items), (.int .i64 p0.Mode), (.bool p0.Silent), (.int .u8 ((UInt8.toNat p0.Flags : Nat) : Int)), (.slice a6 (List.length p0.Data) c7)]) hC31 (i := 3) rfl rfl Tryz.isAgg31 Tryz.sizeOf31 (lt' rfl) rfl ?_
      obtain ⟨y108, h109, H⟩ := bindE H
      refine WL_call (cap := []) en21 (lt' rfl) rfl rfl (f21_ok N hC31.lt (hC31.immAt (i := 8) rfl) [(vstr p0.Tag), (.int .i64 p0.Kind), (vstr p0.Mailbox), (.slice a3 (List.length p0.Set) c4), (.int .i64 p0.Items), (.int .i64 p0.Mode), (.bool p0.Silent), (.int .u8 ((UInt8.toNat p0.Flags : Nat) : Int)), (.slice a6 (List.length p0.Data) c7)] (ApiCommand.mk p0.Tag p0.Kind p0.Mailbox p0.Set p0.Items p0.Mode p0.Silent p0.Flags p0.Data) (rApiCommand_mk (x := (ApiCommand.mk p0.Tag p0.Kind p0.Mailbox p0.Set p0.Items p0.Mode p0.Silent p0.Flags p0.Data)) (hC31.immAt (i := 5) rfl) (hC31.immAt (i := 4) rfl)) y108 h109) ?_
      rintro _ w110 ⟨hk111, -⟩
      have hC112 := hC31.call hk111
      refine WL_not (lt' rfl) rfl ?_
      refine WL_move (v := (.bool (!y108))) (lt' rfl) rfl ?_
      rcases Bool.eq_false_or_eq_true (!y108) with h113 | h113
      · have H := iteT h113 H
        refine WL_no rfl rfl rfl (by rw [h113]; rfl) (lt' rfl) ?_
        refine WL_no rfl rfl rfl (by rw [h113]; rfl) (lt' rfl) ?_
        refine WL_no rfl rfl rfl (by rw [h113]; rfl) (lt' rfl) ?_
        refine WL_pickT (v := (.bool true)) (lt' rfl) (by show Value.bool _ = _; rw [h113]) rfl ?_
        refine WL_nil ?_
        exact kj106 () _ _ ⟨p0.Tag, p0.Kind, p0.Mailbox, p0.Set, p0.Items, p0.Mode, p0.Silent, p0.Flags, p0.Data, p1.Tag, p1.Kind, p1.Mailbox, p1.Set, p1.Items, p1.Mode, p1.Silent, p1.Flags, p1.Data, true, a3, c4, a6, c7, a18, c19, a21, c22, _, _, self_upds ⟨rfl, rfl, rfl, trivial⟩, hC112.pick [8, 5, 4, 2, 1, 3, 0] (by decide) rfl, H⟩
      · have H := iteF h113 H
        refine WL_yes rfl rfl rfl h113 ?_
        refine WL_loadBoxA (cs := [(vstr p1.Tag), (.int .i64 p1.Kind), (vstr p1.Mailbox), (.slice a18 (List.length p1.Set) c19), (.int .i64 p1.Items), (.int .i64 p1.Mode), (.bool p1.Silent), (.int .u8 ((UInt8.toNat p1.Flags : Nat) : Int)), (.slice a21 (List.length p1.Data) c22)]) hC112 (i := 0) rfl rfl Tryz.isAgg31 Tryz.sizeOf31 (lt' rfl) rfl ?_
        refine WL_yes rfl rfl rfl h113 ?_
        obtain ⟨y114, h115, H⟩ := bindE H
        refine WL_call (cap := []) en21 (lt' rfl) rfl rfl (f21_ok N hC112.lt (hC112.immAt (i := 8) rfl) [(vstr p1.Tag), (.int .i64 p1.Kind), (vstr p1.Mailbox), (.slice a18 (List.length p1.Set) c19), (.int .i64 p1.Items), (.int .i64 p1.Mode), (.bool p1.Silent), (.int .u8 ((UInt8.toNat p1.Flags : Nat) : Int)), (.slice a21 (List.length p1.Data) c22)] (ApiCommand.mk p1.Tag p1.Kind p1.Mailbox p1.Set p1.Items p1.Mode p1.Silent p1.Flags p1.Data) (rApiCommand_mk (x := (ApiCommand.mk p1.Tag p1.Kind p1.Mailbox p1.Set p1.Items p1.Mode p1.Silent p1.Flags p1.Data)) (hC112.immAt (i := 2) rfl) (hC112.immAt (i := 1) rfl)) y114 h115) ?_
        rintro _ w116 ⟨hk117, -⟩
        have hC118 := hC112.call hk117
        refine WL_yes rfl rfl rfl h113 ?_
        refine WL_not (lt' rfl) rfl ?_
        refine WL_pickF (v := (.bool (!y114))) (lt' rfl) (by show Value.bool _ = _; rw [h113]) rfl ?_
        refine WL_nil ?_
        exact kj106 () _ _ ⟨p0.Tag, p0.Kind, p0.Mailbox, p0.Set, p0.Items, p0.Mode, p0.Silent, p0.Flags, p0.Data, p1.Tag, p1.Kind, p1.Mailbox, p1.Set, p1.Items, p1.Mode, p1.Silent, p1.Flags, p1.Data, (!y114), a3, c4, a6, c7, a18, c19, a21, c22, _, _, self_upds ⟨rfl, rfl, rfl, trivial⟩, hC118.pick [8, 5, 4, 2, 1, 3, 0] (by decide) rfl, H⟩
    · rintro - - w105 ⟨x70, x71, x72, x73, x77, x78, x79, x80, x81, x85, x86, x87, x88, x92, x93, x94, x95, x96, x100, a74, c75, a82, c83, a89, c90, a97, c98, ρ0, O104, rfl, hC103, H⟩
      refine W_cond (t := x100) rfl (fun h119 => ?_) (fun h119 => ?_)
      · have H := iteT h119 H
        refine W_seq ?_
        refine W_region ?_
        obtain ⟨y120, h121, H⟩ := bindE H
        refine WL_call (cap := []) en14 (lt' rfl) rfl rfl (f14_ok N hC103.lt (hC103.immAt (i := 0) rfl)  y120 h121) ?_
        rintro _ w122 ⟨hk123, -⟩
        have hC124 := hC103.call hk123
        refine WL_assign (v := (.bool y120)) (lt' rfl) rfl ?_
        refine WL_nil ?_
        refine W_ret ?_
        obtain rfl := Option.some.inj H
        exact Exists.intro () (And.intro rfl (And.intro hC124.keep trivial))
      · have H := iteF h119 H
        refine W_skip ?_
        exact kj68 () _ _ ⟨x70, x71, x72, x73, x77, x78, x79, x80, x81, x85, x86, x87, x88, x92, x93, x94, x95, x96, a74, c75, a82, c83, a89, c90, a97, c98, _, _, self_upds ⟨rfl, rfl, trivial⟩, hC103.pick [0, 1, 2, 3, 4, 5, 6] (by decide) rfl, H⟩
  · rintro - - w67 ⟨x33, x34, x35, x36, x40, x41, x42, x43, x44, x48, x49, x50, x51, x55, x56, x57, x58, x59, a37, c38, a45, c46, a52, c53, a60, c61, ρ0, O66, rfl, hC65, H⟩
    refine W_joinS Unit (fun (_ : Unit) (ρ : Env) (w : World) => ∃ (x125 : Bool) (ρ0 : Env) (O : List Nat), ρ = upds ρ0 [(4, (.bool x125))] ∧ Ctx O0 [] w0 O w [.imm rGlob [] ()] ∧ F_law07_CommandSame_j3 N   x125 = some y) (fun K130 kj129 => ?_) ?_
    · skip
      obtain ⟨y131, h132, H⟩ := bindE H
      rcases Bool.eq_false_or_eq_true y131 with h136 | h136
      · have H := iteT h136 H
        obtain ⟨y137, h138, H⟩ := bindE H
        obtain ⟨y142, h143, H⟩ := bindE H
        rcases Bool.eq_false_or_eq_true (y137 == y142) with h147 | h147
        · have H := iteT h147 H
          obtain ⟨y148, h149, H⟩ := bindE H
          refine W_drawnF 15 (fun (S : Nat → Bool) (ρ : Env) (w : World) => ∃ (O : List Nat) (X : List Fact), Ctx O0 [] w0 O w (X ++ [.imm rGlob [] (), .imm (Rp.sl rApiRange) [.slice a37 (List.length x36) c38] x36, .imm (Rp.sl rU8) [.slice a45 (List.length x44) c46] x44, .imm (Rp.sl rApiRange) [.slice a52 (List.length x51) c53] x51, .imm (Rp.sl rU8) [.slice a60 (List.length x59) c61] x59, .box b14 [(vstr x33), (.int .i64 x34), (vstr x35), (.slice a37 (List.length x36) c38), (.int .i64 x40), (.int .i64 x41), (.bool x42), (.int .u8 ((UInt8.toNat x43 : Nat) : Int)), (.slice a45 (List.length x44) c46)] 31, .box b29 [(vstr x48), (.int .i64 x49), (vstr x50), (.slice a52 (List.length x51) c53), (.int .i64 x55), (.int .i64 x56), (.bool x57), (.int .u8 ((UInt8.toNat x58 : Nat) : Int)), (.slice a60 (List.length x59) c61)] 31]) ∧ (ρ 2 = (.pointer (some ⟨b14, 0, none⟩)) ∧ ρ 3 = (.pointer (some ⟨b29, 0, none⟩))) ∧ (S 0 = true → ρ 14 = (.bool y131)) ∧ (S 1 = true → ρ 15 = (.bool y131)) ∧ (S 2 = true → ρ 16 = (.agg (List.toArray [(vstr x33), (.int .i64 x34), (vstr x35), (.slice a37 (List.length x36) c38), (.int .i64 x40), (.int .i64 x41), (.bool x42), (.int .u8 ((UInt8.toNat x43 : Nat) : Int)), (.slice a45 (List.length x44) c46)]))) ∧ (S 3 = true → ρ 17 = (.agg (List.toArray [(vstr x48), (.int .i64 x49), (vstr x50), (.slice a52 (List.length x51) c53), (.int .i64 x55), (.int .i64 x56), (.bool x57), (.int .u8 ((UInt8.toNat x58 : Nat) : Int)), (.slice a60 (List.length x59) c61)]))) ∧ (S 4 = true → ρ 18 = (.bool y137)) ∧ (S 5 = true → ρ 19 = (.agg (List.toArray [(vstr x33), (.int .i64 x34), (vstr x35), (.slice a37 (List.length x36) c38), (.int .i64 x40), (.int .i64 x41), (.bool x42), (.int .u8 ((UInt8.toNat x43 : Nat) : Int)), (.slice a45 (List.length x44) c46)]))) ∧ (S 6 = true → ρ 20 = (.agg (List.toArray [(vstr x48), (.int .i64 x49), (vstr x50), (.slice a52 (List.length x51) c53), (.int .i64 x55), (.int .i64 x56), (.bool x57), (.int .u8 ((UInt8.toNat x58 : Nat) : Int)), (.slice a60 (List.length x59) c61)]))) ∧ (S 7 = true → ρ 21 = (.bool y142)) ∧ (S 8 = true → ρ 22 = (.bool (y137 == y142))) ∧ (S 9 = true → ρ 23 = (.bool (y137 == y142))) ∧ (S 10 = true → ρ 24 = (.bool (y137 == y142))) ∧ (S 11 = true → ρ 25 = (.agg (List.toArray [(vstr x33), (.int .i64 x34), (vstr x35), (.slice a37 (List.length x36) c38), (.int .i64 x40), (.int .i64 x41), (.bool x42), (.int .u8 ((UInt8.toNat x43 : Nat) : Int)), (.slice a45 (List.length x44) c46)]))) ∧ (S 12 = true → ρ 26 = (.agg (List.toArray [(vstr x33), (.int .i64 x34), (vstr x35), (.slice a37 (List.length x36) c38), (.int .i64 x40), (.int .i64 x41), (.bool x42), (.int .u8 ((UInt8.toNat x43 : Nat) : Int)), (.slice a45 (List.length x44) c46)]))) ∧ (S 13 = true → ρ 27 = (.bool y148)) ∧ (S 14 = true → ρ 28 = (.bool y148))) (by kernel_rfl) (by kernel_rfl) (by kernel_rfl) (Nat.le_of_ble_eq_true rfl) ⟨_, [], hC65.drewC, ⟨rfl, rfl⟩, fun h => Bool.noConfusion h, fun h => Bool.noConfusion h, fun h => Bool.noConfusion h, fun h => Bool.noConfusion h, fun h => Bool.noConfusion h, fun h => Bool.noConfusion h, fun h => Bool.noConfusion h, fun h => Bool.noConfusion h, fun h => Bool.noConfusion h, fun h => Bool.noConfusion h, fun h => Bool.noConfusion h, fun h => Bool.noConfusion h, fun h => Bool.noConfusion h, fun h => Bool.noConfusion h, fun h => Bool.noConfusion h⟩ ?_ ?_
          · intro K153 S ρ wd i hi hSi hpre155 hI hK154 o ho
            obtain ⟨Od, X, hCd, ⟨hb2, hb3⟩, hp0, hp1, hp2, hp3, hp4, hp5, hp6, hp7, hp8, hp9, hp10, hp11, hp12, hp13, hp14⟩ := hI
            obtain rfl | rfl | rfl | rfl | rfl | rfl | rfl | rfl | rfl | rfl | rfl | rfl | rfl | rfl | rfl : i = 0 ∨ i = 1 ∨ i = 2 ∨ i = 3 ∨ i = 4 ∨ i = 5 ∨ i = 6 ∨ i = 7 ∨ i = 8 ∨ i = 9 ∨ i = 10 ∨ i = 11 ∨ i = 12 ∨ i = 13 ∨ i = 14 := by omega
            · obtain rfl := Option.some.inj ho
              obtain ⟨ρ1, rfl⟩ : ∃ ρ1, ρ = upds ρ1 [(2, (.pointer (some ⟨b14, 0, none⟩))), (3, (.pointer (some ⟨b29, 0, none⟩)))] := ⟨ρ, self_upds ⟨hb2, hb3, trivial⟩⟩
              refine WL_call (cap := []) en14 (lt' rfl) rfl rfl (f14_ok N hCd.lt (hCd.immAt (i := List.length X + 0) (base_at _ rfl))  y131 h132) ?_
              rintro _ w133 ⟨hk134, -⟩
              have hC135 := hCd.call hk134
              refine WL_nil ?_
              exact hK154 _ _ ⟨_, X, hC135, ⟨rfl, rfl⟩, (fun _ => rfl), hp1, hp2, hp3, hp4, hp5, hp6, hp7, hp8, hp9, hp10, hp11, hp12, hp13, hp14⟩
            · obtain rfl := Option.some.inj ho
              have he0 := hp0 (hpre155 0 rfl)
              obtain ⟨ρ1, rfl⟩ : ∃ ρ1, ρ = upds ρ1 [(2, (.pointer (some ⟨b14, 0, none⟩))), (3, (.pointer (some ⟨b29, 0, none⟩))), (14, (.bool y131))] := ⟨ρ, self_upds ⟨hb2, hb3, he0, trivial⟩⟩
              refine WL_move (v := (.bool y131)) (lt' rfl) rfl ?_
              refine WL_nil ?_
              exact hK154 _ _ ⟨_, X, hCd, ⟨rfl, rfl⟩, hp0, (fun _ => rfl), hp2, hp3, hp4, hp5, hp6, hp7, hp8, hp9, hp10, hp11, hp12, hp13, hp14⟩
            · obtain rfl := Option.some.inj ho
              have he1 := hp1 (hpre155 1 rfl)
              obtain ⟨ρ1, rfl⟩ : ∃ ρ1, ρ = upds ρ1 [(2, (.pointer (some ⟨b14, 0, none⟩))), (3, (.pointer (some ⟨b29, 0, none⟩))), (15, (.bool y131))] := ⟨ρ, self_upds ⟨hb2, hb3, he1, trivial⟩⟩
              refine WL_yes rfl rfl rfl h136 ?_
              refine WL_loadBoxA (cs := [(vstr x33), (.int .i64 x34), (vstr x35), (.slice a37 (List.length x36) c38), (.int .i64 x40), (.int .i64 x41), (.bool x42), (.int .u8 ((UInt8.toNat x43 : Nat) : Int)), (.slice a45 (List.length x44) c46)]) hCd (i := List.length X + 5) (base_at _ rfl) rfl Tryz.isAgg31 Tryz.sizeOf31 (lt' rfl) rfl ?_
              refine WL_nil ?_
              exact hK154 _ _ ⟨_, X, hCd, ⟨rfl, rfl⟩, hp0, hp1, (fun _ => rfl), hp3, hp4, hp5, hp6, hp7, hp8, hp9, hp10, hp11, hp12, hp13, hp14⟩
            · obtain rfl := Option.some.inj ho
              have he1 := hp1 (hpre155 1 rfl)
              obtain ⟨ρ1, rfl⟩ : ∃ ρ1, ρ = upds ρ1 [(2, (.pointer (some ⟨b14, 0, none⟩))), (3, (.pointer (some ⟨b29, 0, none⟩))), (15, (.bool y131))] := ⟨ρ, self_upds ⟨hb2, hb3, he1, trivial⟩⟩
              refine WL_yes rfl rfl rfl h136 ?_
              refine WL_loadBoxA (cs := [(vstr x48), (.int .i64 x49), (vstr x50), (.slice a52 (List.length x51) c53), (.int .i64 x55), (.int .i64 x56), (.bool x57), (.int .u8 ((UInt8.toNat x58 : Nat) : Int)), (.slice a60 (List.length x59) c61)]) hCd (i := List.length X + 6) (base_at _ rfl) rfl Tryz.isAgg31 Tryz.sizeOf31 (lt' rfl) rfl ?_
              refine WL_nil ?_
              exact hK154 _ _ ⟨_, X, hCd, ⟨rfl, rfl⟩, hp0, hp1, hp2, (fun _ => rfl), hp4, hp5, hp6, hp7, hp8, hp9, hp10, hp11, hp12, hp13, hp14⟩
            · obtain rfl := Option.some.inj ho
              have he1 := hp1 (hpre155 1 rfl)
              have he2 := hp2 (hpre155 2 rfl)
              have he3 := hp3 (hpre155 3 rfl)
              obtain ⟨ρ1, rfl⟩ : ∃ ρ1, ρ = upds ρ1 [(2, (.pointer (some ⟨b14, 0, none⟩))), (3, (.pointer (some ⟨b29, 0, none⟩))), (15, (.bool y131)), (16, (.agg (List.toArray [(vstr x33), (.int .i64 x34), (vstr x35), (.slice a37 (List.length x36) c38), (.int .i64 x40), (.int .i64 x41), (.bool x42), (.int .u8 ((UInt8.toNat x43 : Nat) : Int)), (.slice a45 (List.length x44) c46)]))), (17, (.agg (List.toArray [(vstr x48), (.int .i64 x49), (vstr x50), (.slice a52 (List.length x51) c53), (.int .i64 x55), (.int .i64 x56), (.bool x57), (.int .u8 ((UInt8.toNat x58 : Nat) : Int)), (.slice a60 (List.length x59) c61)])))] := ⟨ρ, self_upds ⟨hb2, hb3, he1, he2, he3, trivial⟩⟩
              refine WL_yes rfl rfl rfl h136 ?_
              refine WL_call (cap := []) en22 (lt' rfl) rfl rfl (f22_ok N hCd.lt (hCd.immAt (i := List.length X + 0) (base_at _ rfl)) [(vstr x33), (.int .i64 x34), (vstr x35), (.slice a37 (List.length x36) c38), (.int .i64 x40), (.int .i64 x41), (.bool x42), (.int .u8 ((UInt8.toNat x43 : Nat) : Int)), (.slice a45 (List.length x44) c46)] (ApiCommand.mk x33 x34 x35 x36 x40 x41 x42 x43 x44) (rApiCommand_mk (x := (ApiCommand.mk x33 x34 x35 x36 x40 x41 x42 x43 x44)) (hCd.immAt (i := List.length X + 1) (base_at _ rfl)) (hCd.immAt (i := List.length X + 2) (base_at _ rfl))) [(vstr x48), (.int .i64 x49), (vstr x50), (.slice a52 (List.length x51) c53), (.int .i64 x55), (.int .i64 x56), (.bool x57), (.int .u8 ((UInt8.toNat x58 : Nat) : Int)), (.slice a60 (List.length x59) c61)] (ApiCommand.mk x48 x49 x50 x51 x55 x56 x57 x58 x59) (rApiCommand_mk (x := (ApiCommand.mk x48 x49 x50 x51 x55 x56 x57 x58 x59)) (hCd.immAt (i := List.length X + 3) (base_at _ rfl)) (hCd.immAt (i := List.length X + 4) (base_at _ rfl))) y137 h138) ?_
              rintro _ w139 ⟨hk140, -⟩
              have hC141 := hCd.call hk140
              refine WL_nil ?_
              exact hK154 _ _ ⟨_, X, hC141, ⟨rfl, rfl⟩, hp0, hp1, hp2, hp3, (fun _ => rfl), hp5, hp6, hp7, hp8, hp9, hp10, hp11, hp12, hp13, hp14⟩
            · obtain rfl := Option.some.inj ho
              have he1 := hp1 (hpre155 1 rfl)
              obtain ⟨ρ1, rfl⟩ : ∃ ρ1, ρ = upds ρ1 [(2, (.pointer (some ⟨b14, 0, none⟩))), (3, (.pointer (some ⟨b29, 0, none⟩))), (15, (.bool y131))] := ⟨ρ, self_upds ⟨hb2, hb3, he1, trivial⟩⟩
              refine WL_yes rfl rfl rfl h136 ?_
              refine WL_loadBoxA (cs := [(vstr x33), (.int .i64 x34), (vstr x35), (.slice a37 (List.length x36) c38), (.int .i64 x40), (.int .i64 x41), (.bool x42), (.int .u8 ((UInt8.toNat x43 : Nat) : Int)), (.slice a45 (List.length x44) c46)]) hCd (i := List.length X + 5) (base_at _ rfl) rfl Tryz.isAgg31 Tryz.sizeOf31 (lt' rfl) rfl ?_
              refine WL_nil ?_
              exact hK154 _ _ ⟨_, X, hCd, ⟨rfl, rfl⟩, hp0, hp1, hp2, hp3, hp4, (fun _ => rfl), hp6, hp7, hp8, hp9, hp10, hp11, hp12, hp13, hp14⟩
            · obtain rfl := Option.some.inj ho
              have he1 := hp1 (hpre155 1 rfl)
              obtain ⟨ρ1, rfl⟩ : ∃ ρ1, ρ = upds ρ1 [(2, (.pointer (some ⟨b14, 0, none⟩))), (3, (.pointer (some ⟨b29, 0, none⟩))), (15, (.bool y131))] := ⟨ρ, self_upds ⟨hb2, hb3, he1, trivial⟩⟩
              refine WL_yes rfl rfl rfl h136 ?_
              refine WL_loadBoxA (cs := [(vstr x48), (.int .i64 x49), (vstr x50), (.slice a52 (List.length x51) c53), (.int .i64 x55), (.int .i64 x56), (.bool x57), (.int .u8 ((UInt8.toNat x58 : Nat) : Int)), (.slice a60 (List.length x59) c61)]) hCd (i := List.length X + 6) (base_at _ rfl) rfl Tryz.isAgg31 Tryz.sizeOf31 (lt' rfl) rfl ?_
              refine WL_nil ?_
              exact hK154 _ _ ⟨_, X, hCd, ⟨rfl, rfl⟩, hp0, hp1, hp2, hp3, hp4, hp5, (fun _ => rfl), hp7, hp8, hp9, hp10, hp11, hp12, hp13, hp14⟩
            · obtain rfl := Option.some.inj ho
              have he1 := hp1 (hpre155 1 rfl)
              have he5 := hp5 (hpre155 5 rfl)
              have he6 := hp6 (hpre155 6 rfl)
              obtain ⟨ρ1, rfl⟩ : ∃ ρ1, ρ = upds ρ1 [(2, (.pointer (some ⟨b14, 0, none⟩))), (3, (.pointer (some ⟨b29, 0, none⟩))), (15, (.bool y131)), (19, (.agg (List.toArray [(vstr x33), (.int .i64 x34), (vstr x35), (.slice a37 (List.length x36) c38), (.int .i64 x40), (.int .i64 x41), (.bool x42), (.int .u8 ((UInt8.toNat x43 : Nat) : Int)), (.slice a45 (List.length x44) c46)]))), (20, (.agg (List.toArray [(vstr x48), (.int .i64 x49), (vstr x50), (.slice a52 (List.length x51) c53), (.int .i64 x55), (.int .i64 x56), (.bool x57), (.int .u8 ((UInt8.toNat x58 : Nat) : Int)), (.slice a60 (List.length x59) c61)])))] := ⟨ρ, self_upds ⟨hb2, hb3, he1, he5, he6, trivial⟩⟩
              refine WL_yes rfl rfl rfl h136 ?_
              refine WL_call (cap := []) en13 (lt' rfl) rfl rfl (f13_ok N hCd.lt (hCd.immAt (i := List.length X + 0) (base_at _ rfl)) [(vstr x33), (.int .i64 x34), (vstr x35), (.slice a37 (List.length x36) c38), (.int .i64 x40), (.int .i64 x41), (.bool x42), (.int .u8 ((UInt8.toNat x43 : Nat) : Int)), (.slice a45 (List.length x44) c46)] (ApiCommand.mk x33 x34 x35 x36 x40 x41 x42 x43 x44) (rApiCommand_mk (x := (ApiCommand.mk x33 x34 x35 x36 x40 x41 x42 x43 x44)) (hCd.immAt (i := List.length X + 1) (base_at _ rfl)) (hCd.immAt (i := List.length X + 2) (base_at _ rfl))) [(vstr x48), (.int .i64 x49), (vstr x50), (.slice a52 (List.length x51) c53), (.int .i64 x55), (.int .i64 x56), (.bool x57), (.int .u8 ((UInt8.toNat x58 : Nat) : Int)), (.slice a60 (List.length x59) c61)] (ApiCommand.mk x48 x49 x50 x51 x55 x56 x57 x58 x59) (rApiCommand_mk (x := (ApiCommand.mk x48 x49 x50 x51 x55 x56 x57 x58 x59)) (hCd.immAt (i := List.length X + 3) (base_at _ rfl)) (hCd.immAt (i := List.length X + 4) (base_at _ rfl))) y142 h143) ?_
              rintro _ w144 ⟨hk145, -⟩
              have hC146 := hCd.call hk145
              refine WL_nil ?_
              exact hK154 _ _ ⟨_, X, hC146, ⟨rfl, rfl⟩, hp0, hp1, hp2, hp3, hp4, hp5, hp6, (fun _ => rfl), hp8, hp9, hp10, hp11, hp12, hp13, hp14⟩
            · obtain rfl := Option.some.inj ho
              have he1 := hp1 (hpre155 1 rfl)
              have he4 := hp4 (hpre155 4 rfl)
              have he7 := hp7 (hpre155 7 rfl)
              obtain ⟨ρ1, rfl⟩ : ∃ ρ1, ρ = upds ρ1 [(2, (.pointer (some ⟨b14, 0, none⟩))), (3, (.pointer (some ⟨b29, 0, none⟩))), (15, (.bool y131)), (18, (.bool y137)), (21, (.bool y142))] := ⟨ρ, self_upds ⟨hb2, hb3, he1, he4, he7, trivial⟩⟩
              refine WL_yes rfl rfl rfl h136 ?_
              refine WL_teql (a := y137) (b := y142) Tryz.underlying4 (lt' rfl) rfl rfl ?_
              refine WL_nil ?_
              exact hK154 _ _ ⟨_, X, hCd, ⟨rfl, rfl⟩, hp0, hp1, hp2, hp3, hp4, hp5, hp6, hp7, (fun _ => rfl), hp9, hp10, hp11, hp12, hp13, hp14⟩
            · obtain rfl := Option.some.inj ho
              have he1 := hp1 (hpre155 1 rfl)
              have he8 := hp8 (hpre155 8 rfl)
              obtain ⟨ρ1, rfl⟩ : ∃ ρ1, ρ = upds ρ1 [(2, (.pointer (some ⟨b14, 0, none⟩))), (3, (.pointer (some ⟨b29, 0, none⟩))), (15, (.bool y131)), (22, (.bool (y137 == y142)))] := ⟨ρ, self_upds ⟨hb2, hb3, he1, he8, trivial⟩⟩
              refine WL_pickT (v := (.bool (y137 == y142))) (lt' rfl) (by show Value.bool _ = _; rw [h136]) rfl ?_
              refine WL_nil ?_
              exact hK154 _ _ ⟨_, X, hCd, ⟨rfl, rfl⟩, hp0, hp1, hp2, hp3, hp4, hp5, hp6, hp7, hp8, (fun _ => rfl), hp10, hp11, hp12, hp13, hp14⟩
            · obtain rfl := Option.some.inj ho
              have he9 := hp9 (hpre155 9 rfl)
              obtain ⟨ρ1, rfl⟩ : ∃ ρ1, ρ = upds ρ1 [(2, (.pointer (some ⟨b14, 0, none⟩))), (3, (.pointer (some ⟨b29, 0, none⟩))), (23, (.bool (y137 == y142)))] := ⟨ρ, self_upds ⟨hb2, hb3, he9, trivial⟩⟩
              refine WL_move (v := (.bool (y137 == y142))) (lt' rfl) rfl ?_
              refine WL_nil ?_
              exact hK154 _ _ ⟨_, X, hCd, ⟨rfl, rfl⟩, hp0, hp1, hp2, hp3, hp4, hp5, hp6, hp7, hp8, hp9, (fun _ => rfl), hp11, hp12, hp13, hp14⟩
            · obtain rfl := Option.some.inj ho
              have he10 := hp10 (hpre155 10 rfl)
              obtain ⟨ρ1, rfl⟩ : ∃ ρ1, ρ = upds ρ1 [(2, (.pointer (some ⟨b14, 0, none⟩))), (3, (.pointer (some ⟨b29, 0, none⟩))), (24, (.bool (y137 == y142)))] := ⟨ρ, self_upds ⟨hb2, hb3, he10, trivial⟩⟩
              refine WL_yes rfl rfl rfl h147 ?_
              refine WL_loadBoxA (cs := [(vstr x33), (.int .i64 x34), (vstr x35), (.slice a37 (List.length x36) c38), (.int .i64 x40), (.int .i64 x41), (.bool x42), (.int .u8 ((UInt8.toNat x43 : Nat) : Int)), (.slice a45 (List.length x44) c46)]) hCd (i := List.length X + 5) (base_at _ rfl) rfl Tryz.isAgg31 Tryz.sizeOf31 (lt' rfl) rfl ?_
              refine WL_nil ?_
              exact hK154 _ _ ⟨_, X, hCd, ⟨rfl, rfl⟩, hp0, hp1, hp2, hp3, hp4, hp5, hp6, hp7, hp8, hp9, hp10, (fun _ => rfl), hp12, hp13, hp14⟩
            · obtain rfl := Option.some.inj ho
              have he10 := hp10 (hpre155 10 rfl)
              obtain ⟨ρ1, rfl⟩ : ∃ ρ1, ρ = upds ρ1 [(2, (.pointer (some ⟨b14, 0, none⟩))), (3, (.pointer (some ⟨b29, 0, none⟩))), (24, (.bool (y137 == y142)))] := ⟨ρ, self_upds ⟨hb2, hb3, he10, trivial⟩⟩
              refine WL_yes rfl rfl rfl h147 ?_
              refine WL_loadBoxA (cs := [(vstr x33), (.int .i64 x34), (vstr x35), (.slice a37 (List.length x36) c38), (.int .i64 x40), (.int .i64 x41), (.bool x42), (.int .u8 ((UInt8.toNat x43 : Nat) : Int)), (.slice a45 (List.length x44) c46)]) hCd (i := List.length X + 5) (base_at _ rfl) rfl Tryz.isAgg31 Tryz.sizeOf31 (lt' rfl) rfl ?_
              refine WL_nil ?_
              exact hK154 _ _ ⟨_, X, hCd, ⟨rfl, rfl⟩, hp0, hp1, hp2, hp3, hp4, hp5, hp6, hp7, hp8, hp9, hp10, hp11, (fun _ => rfl), hp13, hp14⟩
            · obtain rfl := Option.some.inj ho
              have he10 := hp10 (hpre155 10 rfl)
              have he11 := hp11 (hpre155 11 rfl)
              have he12 := hp12 (hpre155 12 rfl)
              obtain ⟨ρ1, rfl⟩ : ∃ ρ1, ρ = upds ρ1 [(2, (.pointer (some ⟨b14, 0, none⟩))), (3, (.pointer (some ⟨b29, 0, none⟩))), (24, (.bool (y137 == y142))), (25, (.agg (List.toArray [(vstr x33), (.int .i64 x34), (vstr x35), (.slice a37 (List.length x36) c38), (.int .i64 x40), (.int .i64 x41), (.bool x42), (.int .u8 ((UInt8.toNat x43 : Nat) : Int)), (.slice a45 (List.length x44) c46)]))), (26, (.agg (List.toArray [(vstr x33), (.int .i64 x34), (vstr x35), (.slice a37 (List.length x36) c38), (.int .i64 x40), (.int .i64 x41), (.bool x42), (.int .u8 ((UInt8.toNat x43 : Nat) : Int)), (.slice a45 (List.length x44) c46)])))] := ⟨ρ, self_upds ⟨hb2, hb3, he10, he11, he12, trivial⟩⟩
              refine WL_yes rfl rfl rfl h147 ?_
              refine WL_call (cap := []) en22 (lt' rfl) rfl rfl (f22_ok N hCd.lt (hCd.immAt (i := List.length X + 0) (base_at _ rfl)) [(vstr x33), (.int .i64 x34), (vstr x35), (.slice a37 (List.length x36) c38), (.int .i64 x40), (.int .i64 x41), (.bool x42), (.int .u8 ((UInt8.toNat x43 : Nat) : Int)), (.slice a45 (List.length x44) c46)] (ApiCommand.mk x33 x34 x35 x36 x40 x41 x42 x43 x44) (rApiCommand_mk (x := (ApiCommand.mk x33 x34 x35 x36 x40 x41 x42 x43 x44)) (hCd.immAt (i := List.length X + 1) (base_at _ rfl)) (hCd.immAt (i := List.length X + 2) (base_at _ rfl))) [(vstr x33), (.int .i64 x34), (vstr x35), (.slice a37 (List.length x36) c38), (.int .i64 x40), (.int .i64 x41), (.bool x42), (.int .u8 ((UInt8.toNat x43 : Nat) : Int)), (.slice a45 (List.length x44) c46)] (ApiCommand.mk x33 x34 x35 x36 x40 x41 x42 x43 x44) (rApiCommand_mk (x := (ApiCommand.mk x33 x34 x35 x36 x40 x41 x42 x43 x44)) (hCd.immAt (i := List.length X + 1) (base_at _ rfl)) (hCd.immAt (i := List.length X + 2) (base_at _ rfl))) y148 h149) ?_
              rintro _ w150 ⟨hk151, -⟩
              have hC152 := hCd.call hk151
              refine WL_nil ?_
              exact hK154 _ _ ⟨_, X, hC152, ⟨rfl, rfl⟩, hp0, hp1, hp2, hp3, hp4, hp5, hp6, hp7, hp8, hp9, hp10, hp11, hp12, (fun _ => rfl), hp14⟩
            · obtain rfl := Option.some.inj ho
              have he10 := hp10 (hpre155 10 rfl)
              have he13 := hp13 (hpre155 13 rfl)
              obtain ⟨ρ1, rfl⟩ : ∃ ρ1, ρ = upds ρ1 [(2, (.pointer (some ⟨b14, 0, none⟩))), (3, (.pointer (some ⟨b29, 0, none⟩))), (24, (.bool (y137 == y142))), (27, (.bool y148))] := ⟨ρ, self_upds ⟨hb2, hb3, he10, he13, trivial⟩⟩
              refine WL_pickT (v := (.bool y148)) (lt' rfl) (by show Value.bool _ = _; rw [h147]) rfl ?_
              refine WL_nil ?_
              exact hK154 _ _ ⟨_, X, hCd, ⟨rfl, rfl⟩, hp0, hp1, hp2, hp3, hp4, hp5, hp6, hp7, hp8, hp9, hp10, hp11, hp12, hp13, (fun _ => rfl)⟩
          · intro S156 ρ w159 hall157 hI
            obtain ⟨O158, X, hC160, ⟨hb2, hb3⟩, hp0, hp1, hp2, hp3, hp4, hp5, hp6, hp7, hp8, hp9, hp10, hp11, hp12, hp13, hp14⟩ := hI
            have he14 := hp14 (hall157 14 (by decide))
            obtain ⟨ρ1, rfl⟩ : ∃ ρ1, ρ = upds ρ1 [(2, (.pointer (some ⟨b14, 0, none⟩))), (3, (.pointer (some ⟨b29, 0, none⟩))), (28, (.bool y148))] := ⟨ρ, self_upds ⟨hb2, hb3, he14, trivial⟩⟩
            have hC161 := hC160.ofX (Ln := []) (by intro f hf; cases hf) (by simp [Fact.own])
            refine WL_assign (v := (.bool y148)) (lt' rfl) rfl ?_
            refine WL_nil ?_
            exact kj129 () _ _ ⟨y148, _, _, self_upds ⟨rfl, trivial⟩, hC161.pick [0] (by decide) rfl, H⟩
        · have H := iteF h147 H
          refine W_drawnF 15 (fun (S : Nat → Bool) (ρ : Env) (w : World) => ∃ (O : List Nat) (X : List Fact), Ctx O0 [] w0 O w (X ++ [.imm rGlob [] (), .imm (Rp.sl rApiRange) [.slice a37 (List.length x36) c38] x36, .imm (Rp.sl rU8) [.slice a45 (List.length x44) c46] x44, .imm (Rp.sl rApiRange) [.slice a52 (List.length x51) c53] x51, .imm (Rp.sl rU8) [.slice a60 (List.length x59) c61] x59, .box b14 [(vstr x33), (.int .i64 x34), (vstr x35), (.slice a37 (List.length x36) c38), (.int .i64 x40), (.int .i64 x41), (.bool x42), (.int .u8 ((UInt8.toNat x43 : Nat) : Int)), (.slice a45 (List.length x44) c46)] 31, .box b29 [(vstr x48), (.int .i64 x49), (vstr x50), (.slice a52 (List.length x51) c53), (.int .i64 x55), (.int .i64 x56), (.bool x57), (.int .u8 ((UInt8.toNat x58 : Nat) : Int)), (.slice a60 (List.length x59) c61)] 31]) ∧ (ρ 2 = (.pointer (some ⟨b14, 0, none⟩)) ∧ ρ 3 = (.pointer (some ⟨b29, 0, none⟩))) ∧ (S 0 = true → ρ 14 = (.bool y131)) ∧ (S 1 = true → ρ 15 = (.bool y131)) ∧ (S 2 = true → ρ 16 = (.agg (List.toArray [(vstr x33), (.int .i64 x34), (vstr x35), (.slice a37 (List.length x36) c38), (.int .i64 x40), (.int .i64 x41), (.bool x42), (.int .u8 ((UInt8.toNat x43 : Nat) : Int)), (.slice a45 (List.length x44) c46)]))) ∧ (S 3 = true → ρ 17 = (.agg (List.toArray [(vstr x48), (.int .i64 x49), (vstr x50), (.slice a52 (List.length x51) c53), (.int .i64 x55), (.int .i64 x56), (.bool x57), (.int .u8 ((UInt8.toNat x58 : Nat) : Int)), (.slice a60 (List.length x59) c61)]))) ∧ (S 4 = true → ρ 18 = (.bool y137)) ∧ (S 5 = true → ρ 19 = (.agg (List.toArray [(vstr x33), (.int .i64 x34), (vstr x35), (.slice a37 (List.length x36) c38), (.int .i64 x40), (.int .i64 x41), (.bool x42), (.int .u8 ((UInt8.toNat x43 : Nat) : Int)), (.slice a45 (List.length x44) c46)]))) ∧ (S 6 = true → ρ 20 = (.agg (List.toArray [(vstr x48), (.int .i64 x49), (vstr x50), (.slice a52 (List.length x51) c53), (.int .i64 x55), (.int .i64 x56), (.bool x57), (.int .u8 ((UInt8.toNat x58 : Nat) : Int)), (.slice a60 (List.length x59) c61)]))) ∧ (S 7 = true → ρ 21 = (.bool y142)) ∧ (S 8 = true → ρ 22 = (.bool (y137 == y142))) ∧ (S 9 = true → ρ 23 = (.bool (y137 == y142))) ∧ (S 10 = true → ρ 24 = (.bool (y137 == y142))) ∧ (S 11 = true → ρ 25 = undef) ∧ (S 12 = true → ρ 26 = undef) ∧ (S 13 = true → ρ 27 = undef) ∧ (S 14 = true → ρ 28 = (.bool false))) (by kernel_rfl) (by kernel_rfl) (by kernel_rfl) (Nat.le_of_ble_eq_true rfl) ⟨_, [], hC65.drewC, ⟨rfl, rfl⟩, fun h => Bool.noConfusion h, fun h => Bool.noConfusion h, fun h => Bool.noConfusion h, fun h => Bool.noConfusion h, fun h => Bool.noConfusion h, fun h => Bool.noConfusion h, fun h => Bool.noConfusion h, fun h => Bool.noConfusion h, fun h => Bool.noConfusion h, fun h => Bool.noConfusion h, fun h => Bool.noConfusion h, fun h => Bool.noConfusion h, fun h => Bool.noConfusion h, fun h => Bool.noConfusion h, fun h => Bool.noConfusion h⟩ ?_ ?_
          · intro K162 S ρ wd i hi hSi hpre164 hI hK163 o ho
            obtain ⟨Od, X, hCd, ⟨hb2, hb3⟩, hp0, hp1, hp2, hp3, hp4, hp5, hp6, hp7, hp8, hp9, hp10, hp11, hp12, hp13, hp14⟩ := hI
            obtain rfl | rfl | rfl | rfl | rfl | rfl | rfl | rfl | rfl | rfl | rfl | rfl | rfl | rfl | rfl : i = 0 ∨ i = 1 ∨ i = 2 ∨ i = 3 ∨ i = 4 ∨ i = 5 ∨ i = 6 ∨ i = 7 ∨ i = 8 ∨ i = 9 ∨ i = 10 ∨ i = 11 ∨ i = 12 ∨ i = 13 ∨ i = 14 := by omega
            · obtain rfl := Option.some.inj ho
              obtain ⟨ρ1, rfl⟩ : ∃ ρ1, ρ = upds ρ1 [(2, (.pointer (some ⟨b14, 0, none⟩))), (3, (.pointer (some ⟨b29, 0, none⟩)))] := ⟨ρ, self_upds ⟨hb2, hb3, trivial⟩⟩
              refine WL_call (cap := []) en14 (lt' rfl) rfl rfl (f14_ok N hCd.lt (hCd.immAt (i := List.length X + 0) (base_at _ rfl))  y131 h132) ?_
              rintro _ w133 ⟨hk134, -⟩
              have hC135 := hCd.call hk134
              refine WL_nil ?_
              exact hK163 _ _ ⟨_, X, hC135, ⟨rfl, rfl⟩, (fun _ => rfl), hp1, hp2, hp3, hp4, hp5, hp6, hp7, hp8, hp9, hp10, hp11, hp12, hp13, hp14⟩
            · obtain rfl := Option.some.inj ho
              have he0 := hp0 (hpre164 0 rfl)
              obtain ⟨ρ1, rfl⟩ : ∃ ρ1, ρ = upds ρ1 [(2, (.pointer (some ⟨b14, 0, none⟩))), (3, (.pointer (some ⟨b29, 0, none⟩))), (14, (.bool y131))] := ⟨ρ, self_upds ⟨hb2, hb3, he0, trivial⟩⟩
              refine WL_move (v := (.bool y131)) (lt' rfl) rfl ?_
              refine WL_nil ?_
              exact hK163 _ _ ⟨_, X, hCd, ⟨rfl, rfl⟩, hp0, (fun _ => rfl), hp2, hp3, hp4, hp5, hp6, hp7, hp8, hp9, hp10, hp11, hp12, hp13, hp14⟩
            · obtain rfl := Option.some.inj ho
              have he1 := hp1 (hpre164 1 rfl)
              obtain ⟨ρ1, rfl⟩ : ∃ ρ1, ρ = upds ρ1 [(2, (.pointer (some ⟨b14, 0, none⟩))), (3, (.pointer (some ⟨b29, 0, none⟩))), (15, (.bool y131))] := ⟨ρ, self_upds ⟨hb2, hb3, he1, trivial⟩⟩
              refine WL_yes rfl rfl rfl h136 ?_
              refine WL_loadBoxA (cs := [(vstr x33), (.int .i64 x34), (vstr x35), (.slice a37 (List.length x36) c38), (.int .i64 x40), (.int .i64 x41), (.bool x42), (.int .u8 ((UInt8.toNat x43 : Nat) : Int)), (.slice a45 (List.length x44) c46)]) hCd (i := List.length X + 5) (base_at _ rfl) rfl Tryz.isAgg31 Tryz.sizeOf31 (lt' rfl) rfl ?_
              refine WL_nil ?_
              exact hK163 _ _ ⟨_, X, hCd, ⟨rfl, rfl⟩, hp0, hp1, (fun _ => rfl), hp3, hp4, hp5, hp6, hp7, hp8, hp9, hp10, hp11, hp12, hp13, hp14⟩
            · obtain rfl := Option.some.inj ho
              have he1 := hp1 (hpre164 1 rfl)
              obtain ⟨ρ1, rfl⟩ : ∃ ρ1, ρ = upds ρ1 [(2, (.pointer (some ⟨b14, 0, none⟩))), (3, (.pointer (some ⟨b29, 0, none⟩))), (15, (.bool y131))] := ⟨ρ, self_upds ⟨hb2, hb3, he1, trivial⟩⟩
              refine WL_yes rfl rfl rfl h136 ?_
              refine WL_loadBoxA (cs := [(vstr x48), (.int .i64 x49), (vstr x50), (.slice a52 (List.length x51) c53), (.int .i64 x55), (.int .i64 x56), (.bool x57), (.int .u8 ((UInt8.toNat x58 : Nat) : Int)), (.slice a60 (List.length x59) c61)]) hCd (i := List.length X + 6) (base_at _ rfl) rfl Tryz.isAgg31 Tryz.sizeOf31 (lt' rfl) rfl ?_
              refine WL_nil ?_
              exact hK163 _ _ ⟨_, X, hCd, ⟨rfl, rfl⟩, hp0, hp1, hp2, (fun _ => rfl), hp4, hp5, hp6, hp7, hp8, hp9, hp10, hp11, hp12, hp13, hp14⟩
            · obtain rfl := Option.some.inj ho
              have he1 := hp1 (hpre164 1 rfl)
              have he2 := hp2 (hpre164 2 rfl)
              have he3 := hp3 (hpre164 3 rfl)
              obtain ⟨ρ1, rfl⟩ : ∃ ρ1, ρ = upds ρ1 [(2, (.pointer (some ⟨b14, 0, none⟩))), (3, (.pointer (some ⟨b29, 0, none⟩))), (15, (.bool y131)), (16, (.agg (List.toArray [(vstr x33), (.int .i64 x34), (vstr x35), (.slice a37 (List.length x36) c38), (.int .i64 x40), (.int .i64 x41), (.bool x42), (.int .u8 ((UInt8.toNat x43 : Nat) : Int)), (.slice a45 (List.length x44) c46)]))), (17, (.agg (List.toArray [(vstr x48), (.int .i64 x49), (vstr x50), (.slice a52 (List.length x51) c53), (.int .i64 x55), (.int .i64 x56), (.bool x57), (.int .u8 ((UInt8.toNat x58 : Nat) : Int)), (.slice a60 (List.length x59) c61)])))] := ⟨ρ, self_upds ⟨hb2, hb3, he1, he2, he3, trivial⟩⟩
              refine WL_yes rfl rfl rfl h136 ?_
              refine WL_call (cap := []) en22 (lt' rfl) rfl rfl (f22_ok N hCd.lt (hCd.immAt (i := List.length X + 0) (base_at _ rfl)) [(vstr x33), (.int .i64 x34), (vstr x35), (.slice a37 (List.length x36) c38), (.int .i64 x40), (.int .i64 x41), (.bool x42), (.int .u8 ((UInt8.toNat x43 : Nat) : Int)), (.slice a45 (List.length x44) c46)] (ApiCommand.mk x33 x34 x35 x36 x40 x41 x42 x43 x44) (rApiCommand_mk (x := (ApiCommand.mk x33 x34 x35 x36 x40 x41 x42 x43 x44)) (hCd.immAt (i := List.length X + 1) (base_at _ rfl)) (hCd.immAt (i := List.length X + 2) (base_at _ rfl))) [(vstr x48), (.int .i64 x49), (vstr x50), (.slice a52 (List.length x51) c53), (.int .i64 x55), (.int .i64 x56), (.bool x57), (.int .u8 ((UInt8.toNat x58 : Nat) : Int)), (.slice a60 (List.length x59) c61)] (ApiCommand.mk x48 x49 x50 x51 x55 x56 x57 x58 x59) (rApiCommand_mk (x := (ApiCommand.mk x48 x49 x50 x51 x55 x56 x57 x58 x59)) (hCd.immAt (i := List.length X + 3) (base_at _ rfl)) (hCd.immAt (i := List.length X + 4) (base_at _ rfl))) y137 h138) ?_
              rintro _ w139 ⟨hk140, -⟩
              have hC141 := hCd.call hk140
              refine WL_nil ?_
              exact hK163 _ _ ⟨_, X, hC141, ⟨rfl, rfl⟩, hp0, hp1, hp2, hp3, (fun _ => rfl), hp5, hp6, hp7, hp8, hp9, hp10, hp11, hp12, hp13, hp14⟩
            · obtain rfl := Option.some.inj ho
              have he1 := hp1 (hpre164 1 rfl)
              obtain ⟨ρ1, rfl⟩ : ∃ ρ1, ρ = upds ρ1 [(2, (.pointer (some ⟨b14, 0, none⟩))), (3, (.pointer (some ⟨b29, 0, none⟩))), (15, (.bool y131))] := ⟨ρ, self_upds ⟨hb2, hb3, he1, trivial⟩⟩
              refine WL_yes rfl rfl rfl h136 ?_
              refine WL_loadBoxA (cs := [(vstr x33), (.int .i64 x34), (vstr x35), (.slice a37 (List.length x36) c38), (.int .i64 x40), (.int .i64 x41), (.bool x42), (.int .u8 ((UInt8.toNat x43 : Nat) : Int)), (.slice a45 (List.length x44) c46)]) hCd (i := List.length X + 5) (base_at _ rfl) rfl Tryz.isAgg31 Tryz.sizeOf31 (lt' rfl) rfl ?_
              refine WL_nil ?_
              exact hK163 _ _ ⟨_, X, hCd, ⟨rfl, rfl⟩, hp0, hp1, hp2, hp3, hp4, (fun _ => rfl), hp6, hp7, hp8, hp9, hp10, hp11, hp12, hp13, hp14⟩
            · obtain rfl := Option.some.inj ho
              have he1 := hp1 (hpre164 1 rfl)
              obtain ⟨ρ1, rfl⟩ : ∃ ρ1, ρ = upds ρ1 [(2, (.pointer (some ⟨b14, 0, none⟩))), (3, (.pointer (some ⟨b29, 0, none⟩))), (15, (.bool y131))] := ⟨ρ, self_upds ⟨hb2, hb3, he1, trivial⟩⟩
              refine WL_yes rfl rfl rfl h136 ?_
              refine WL_loadBoxA (cs := [(vstr x48), (.int .i64 x49), (vstr x50), (.slice a52 (List.length x51) c53), (.int .i64 x55), (.int .i64 x56), (.bool x57), (.int .u8 ((UInt8.toNat x58 : Nat) : Int)), (.slice a60 (List.length x59) c61)]) hCd (i := List.length X + 6) (base_at _ rfl) rfl Tryz.isAgg31 Tryz.sizeOf31 (lt' rfl) rfl ?_
              refine WL_nil ?_
              exact hK163 _ _ ⟨_, X, hCd, ⟨rfl, rfl⟩, hp0, hp1, hp2, hp3, hp4, hp5, (fun _ => rfl), hp7, hp8, hp9, hp10, hp11, hp12, hp13, hp14⟩
            · obtain rfl := Option.some.inj ho
              have he1 := hp1 (hpre164 1 rfl)
              have he5 := hp5 (hpre164 5 rfl)
              have he6 := hp6 (hpre164 6 rfl)
              obtain ⟨ρ1, rfl⟩ : ∃ ρ1, ρ = upds ρ1 [(2, (.pointer (some ⟨b14, 0, none⟩))), (3, (.pointer (some ⟨b29, 0, none⟩))), (15, (.bool y131)), (19, (.agg (List.toArray [(vstr x33), (.int .i64 x34), (vstr x35), (.slice a37 (List.length x36) c38), (.int .i64 x40), (.int .i64 x41), (.bool x42), (.int .u8 ((UInt8.toNat x43 : Nat) : Int)), (.slice a45 (List.length x44) c46)]))), (20, (.agg (List.toArray [(vstr x48), (.int .i64 x49), (vstr x50), (.slice a52 (List.length x51) c53), (.int .i64 x55), (.int .i64 x56), (.bool x57), (.int .u8 ((UInt8.toNat x58 : Nat) : Int)), (.slice a60 (List.length x59) c61)])))] := ⟨ρ, self_upds ⟨hb2, hb3, he1, he5, he6, trivial⟩⟩
              refine WL_yes rfl rfl rfl h136 ?_
              refine WL_call (cap := []) en13 (lt' rfl) rfl rfl (f13_ok N hCd.lt (hCd.immAt (i := List.length X + 0) (base_at _ rfl)) [(vstr x33), (.int .i64 x34), (vstr x35), (.slice a37 (List.length x36) c38), (.int .i64 x40), (.int .i64 x41), (.bool x42), (.int .u8 ((UInt8.toNat x43 : Nat) : Int)), (.slice a45 (List.length x44) c46)] (ApiCommand.mk x33 x34 x35 x36 x40 x41 x42 x43 x44) (rApiCommand_mk (x := (ApiCommand.mk x33 x34 x35 x36 x40 x41 x42 x43 x44)) (hCd.immAt (i := List.length X + 1) (base_at _ rfl)) (hCd.immAt (i := List.length X + 2) (base_at _ rfl))) [(vstr x48), (.int .i64 x49), (vstr x50), (.slice a52 (List.length x51) c53), (.int .i64 x55), (.int .i64 x56), (.bool x57), (.int .u8 ((UInt8.toNat x58 : Nat) : Int)), (.slice a60 (List.length x59) c61)] (ApiCommand.mk x48 x49 x50 x51 x55 x56 x57 x58 x59) (rApiCommand_mk (x := (ApiCommand.mk x48 x49 x50 x51 x55 x56 x57 x58 x59)) (hCd.immAt (i := List.length X + 3) (base_at _ rfl)) (hCd.immAt (i := List.length X + 4) (base_at _ rfl))) y142 h143) ?_
              rintro _ w144 ⟨hk145, -⟩
              have hC146 := hCd.call hk145
              refine WL_nil ?_
              exact hK163 _ _ ⟨_, X, hC146, ⟨rfl, rfl⟩, hp0, hp1, hp2, hp3, hp4, hp5, hp6, (fun _ => rfl), hp8, hp9, hp10, hp11, hp12, hp13, hp14⟩
            · obtain rfl := Option.some.inj ho
              have he1 := hp1 (hpre164 1 rfl)
              have he4 := hp4 (hpre164 4 rfl)
              have he7 := hp7 (hpre164 7 rfl)
              obtain ⟨ρ1, rfl⟩ : ∃ ρ1, ρ = upds ρ1 [(2, (.pointer (some ⟨b14, 0, none⟩))), (3, (.pointer (some ⟨b29, 0, none⟩))), (15, (.bool y131)), (18, (.bool y137)), (21, (.bool y142))] := ⟨ρ, self_upds ⟨hb2, hb3, he1, he4, he7, trivial⟩⟩
              refine WL_yes rfl rfl rfl h136 ?_
              refine WL_teql (a := y137) (b := y142) Tryz.underlying4 (lt' rfl) rfl rfl ?_
              refine WL_nil ?_
              exact hK163 _ _ ⟨_, X, hCd, ⟨rfl, rfl⟩, hp0, hp1, hp2, hp3, hp4, hp5, hp6, hp7, (fun _ => rfl), hp9, hp10, hp11, hp12, hp13, hp14⟩
            · obtain rfl := Option.some.inj ho
              have he1 := hp1 (hpre164 1 rfl)
              have he8 := hp8 (hpre164 8 rfl)
              obtain ⟨ρ1, rfl⟩ : ∃ ρ1, ρ = upds ρ1 [(2, (.pointer (some ⟨b14, 0, none⟩))), (3, (.pointer (some ⟨b29, 0, none⟩))), (15, (.bool y131)), (22, (.bool (y137 == y142)))] := ⟨ρ, self_upds ⟨hb2, hb3, he1, he8, trivial⟩⟩
              refine WL_pickT (v := (.bool (y137 == y142))) (lt' rfl) (by show Value.bool _ = _; rw [h136]) rfl ?_
              refine WL_nil ?_
              exact hK163 _ _ ⟨_, X, hCd, ⟨rfl, rfl⟩, hp0, hp1, hp2, hp3, hp4, hp5, hp6, hp7, hp8, (fun _ => rfl), hp10, hp11, hp12, hp13, hp14⟩
            · obtain rfl := Option.some.inj ho
              have he9 := hp9 (hpre164 9 rfl)
              obtain ⟨ρ1, rfl⟩ : ∃ ρ1, ρ = upds ρ1 [(2, (.pointer (some ⟨b14, 0, none⟩))), (3, (.pointer (some ⟨b29, 0, none⟩))), (23, (.bool (y137 == y142)))] := ⟨ρ, self_upds ⟨hb2, hb3, he9, trivial⟩⟩
              refine WL_move (v := (.bool (y137 == y142))) (lt' rfl) rfl ?_
              refine WL_nil ?_
              exact hK163 _ _ ⟨_, X, hCd, ⟨rfl, rfl⟩, hp0, hp1, hp2, hp3, hp4, hp5, hp6, hp7, hp8, hp9, (fun _ => rfl), hp11, hp12, hp13, hp14⟩
            · obtain rfl := Option.some.inj ho
              have he10 := hp10 (hpre164 10 rfl)
              obtain ⟨ρ1, rfl⟩ : ∃ ρ1, ρ = upds ρ1 [(2, (.pointer (some ⟨b14, 0, none⟩))), (3, (.pointer (some ⟨b29, 0, none⟩))), (24, (.bool (y137 == y142)))] := ⟨ρ, self_upds ⟨hb2, hb3, he10, trivial⟩⟩
              refine WL_no rfl rfl rfl (by rw [h147]; rfl) (lt' rfl) ?_
              refine WL_nil ?_
              exact hK163 _ _ ⟨_, X, hCd, ⟨rfl, rfl⟩, hp0, hp1, hp2, hp3, hp4, hp5, hp6, hp7, hp8, hp9, hp10, (fun _ => rfl), hp12, hp13, hp14⟩
            · obtain rfl := Option.some.inj ho
              have he10 := hp10 (hpre164 10 rfl)
              obtain ⟨ρ1, rfl⟩ : ∃ ρ1, ρ = upds ρ1 [(2, (.pointer (some ⟨b14, 0, none⟩))), (3, (.pointer (some ⟨b29, 0, none⟩))), (24, (.bool (y137 == y142)))] := ⟨ρ, self_upds ⟨hb2, hb3, he10, trivial⟩⟩
              refine WL_no rfl rfl rfl (by rw [h147]; rfl) (lt' rfl) ?_
              refine WL_nil ?_
              exact hK163 _ _ ⟨_, X, hCd, ⟨rfl, rfl⟩, hp0, hp1, hp2, hp3, hp4, hp5, hp6, hp7, hp8, hp9, hp10, hp11, (fun _ => rfl), hp13, hp14⟩
            · obtain rfl := Option.some.inj ho
              have he10 := hp10 (hpre164 10 rfl)
              have he11 := hp11 (hpre164 11 rfl)
              have he12 := hp12 (hpre164 12 rfl)
              obtain ⟨ρ1, rfl⟩ : ∃ ρ1, ρ = upds ρ1 [(2, (.pointer (some ⟨b14, 0, none⟩))), (3, (.pointer (some ⟨b29, 0, none⟩))), (24, (.bool (y137 == y142))), (25, undef), (26, undef)] := ⟨ρ, self_upds ⟨hb2, hb3, he10, he11, he12, trivial⟩⟩
              refine WL_no rfl rfl rfl (by rw [h147]; rfl) (lt' rfl) ?_
              refine WL_nil ?_
              exact hK163 _ _ ⟨_, X, hCd, ⟨rfl, rfl⟩, hp0, hp1, hp2, hp3, hp4, hp5, hp6, hp7, hp8, hp9, hp10, hp11, hp12, (fun _ => rfl), hp14⟩
            · obtain rfl := Option.some.inj ho
              have he10 := hp10 (hpre164 10 rfl)
              have he13 := hp13 (hpre164 13 rfl)
              obtain ⟨ρ1, rfl⟩ : ∃ ρ1, ρ = upds ρ1 [(2, (.pointer (some ⟨b14, 0, none⟩))), (3, (.pointer (some ⟨b29, 0, none⟩))), (24, (.bool (y137 == y142))), (27, undef)] := ⟨ρ, self_upds ⟨hb2, hb3, he10, he13, trivial⟩⟩
              refine WL_pickF (v := (.bool false)) (lt' rfl) (by show Value.bool _ = _; rw [h147]) rfl ?_
              refine WL_nil ?_
              exact hK163 _ _ ⟨_, X, hCd, ⟨rfl, rfl⟩, hp0, hp1, hp2, hp3, hp4, hp5, hp6, hp7, hp8, hp9, hp10, hp11, hp12, hp13, (fun _ => rfl)⟩
          · intro S165 ρ w168 hall166 hI
            obtain ⟨O167, X, hC169, ⟨hb2, hb3⟩, hp0, hp1, hp2, hp3, hp4, hp5, hp6, hp7, hp8, hp9, hp10, hp11, hp12, hp13, hp14⟩ := hI
            have he14 := hp14 (hall166 14 (by decide))
            obtain ⟨ρ1, rfl⟩ : ∃ ρ1, ρ = upds ρ1 [(2, (.pointer (some ⟨b14, 0, none⟩))), (3, (.pointer (some ⟨b29, 0, none⟩))), (28, (.bool false))] := ⟨ρ, self_upds ⟨hb2, hb3, he14, trivial⟩⟩
            have hC170 := hC169.ofX (Ln := []) (by intro f hf; cases hf) (by simp [Fact.own])
            refine WL_assign (v := (.bool false)) (lt' rfl) rfl ?_
            refine WL_nil ?_
            exact kj129 () _ _ ⟨false, _, _, self_upds ⟨rfl, trivial⟩, hC170.pick [0] (by decide) rfl, H⟩
      · have H := iteF h136 H
        refine W_drawnF 15 (fun (S : Nat → Bool) (ρ : Env) (w : World) => ∃ (O : List Nat) (X : List Fact), Ctx O0 [] w0 O w (X ++ [.imm rGlob [] (), .imm (Rp.sl rApiRange) [.slice a37 (List.length x36) c38] x36, .imm (Rp.sl rU8) [.slice a45 (List.length x44) c46] x44, .imm (Rp.sl rApiRange) [.slice a52 (List.length x51) c53] x51, .imm (Rp.sl rU8) [.slice a60 (List.length x59) c61] x59, .box b14 [(vstr x33), (.int .i64 x34), (vstr x35), (.slice a37 (List.length x36) c38), (.int .i64 x40), (.int .i64 x41), (.bool x42), (.int .u8 ((UInt8.toNat x43 : Nat) : Int)), (.slice a45 (List.length x44) c46)] 31, .box b29 [(vstr x48), (.int .i64 x49), (vstr x50), (.slice a52 (List.length x51) c53), (.int .i64 x55), (.int .i64 x56), (.bool x57), (.int .u8 ((UInt8.toNat x58 : Nat) : Int)), (.slice a60 (List.length x59) c61)] 31]) ∧ (ρ 2 = (.pointer (some ⟨b14, 0, none⟩)) ∧ ρ 3 = (.pointer (some ⟨b29, 0, none⟩))) ∧ (S 0 = true → ρ 14 = (.bool y131)) ∧ (S 1 = true → ρ 15 = (.bool y131)) ∧ (S 2 = true → ρ 16 = undef) ∧ (S 3 = true → ρ 17 = undef) ∧ (S 4 = true → ρ 18 = undef) ∧ (S 5 = true → ρ 19 = undef) ∧ (S 6 = true → ρ 20 = undef) ∧ (S 7 = true → ρ 21 = undef) ∧ (S 8 = true → ρ 22 = undef) ∧ (S 9 = true → ρ 23 = (.bool false)) ∧ (S 10 = true → ρ 24 = (.bool false)) ∧ (S 11 = true → ρ 25 = undef) ∧ (S 12 = true → ρ 26 = undef) ∧ (S 13 = true → ρ 27 = undef) ∧ (S 14 = true → ρ 28 = (.bool false))) (by kernel_rfl) (by kernel_rfl) (by kernel_rfl) (Nat.le_of_ble_eq_true rfl) ⟨_, [], hC65.drewC, ⟨rfl, rfl⟩, fun h => Bool.noConfusion h, fun h => Bool.noConfusion h, fun h => Bool.noConfusion h, fun h => Bool.noConfusion h, fun h => Bool.noConfusion h, fun h => Bool.noConfusion h, fun h => Bool.noConfusion h, fun h => Bool.noConfusion h, fun h => Bool.noConfusion h, fun h => Bool.noConfusion h, fun h => Bool.noConfusion h, fun h => Bool.noConfusion h, fun h => Bool.noConfusion h, fun h => Bool.noConfusion h, fun h => Bool.noConfusion h⟩ ?_ ?_
        · intro K171 S ρ wd i hi hSi hpre173 hI hK172 o ho
          obtain ⟨Od, X, hCd, ⟨hb2, hb3⟩, hp0, hp1, hp2, hp3, hp4, hp5, hp6, hp7, hp8, hp9, hp10, hp11, hp12, hp13, hp14⟩ := hI
          obtain rfl | rfl | rfl | rfl | rfl | rfl | rfl | rfl | rfl | rfl | rfl | rfl | rfl | rfl | rfl : i = 0 ∨ i = 1 ∨ i = 2 ∨ i = 3 ∨ i = 4 ∨ i = 5 ∨ i = 6 ∨ i = 7 ∨ i = 8 ∨ i = 9 ∨ i = 10 ∨ i = 11 ∨ i = 12 ∨ i = 13 ∨ i = 14 := by omega
          · obtain rfl := Option.some.inj ho
            obtain ⟨ρ1, rfl⟩ : ∃ ρ1, ρ = upds ρ1 [(2, (.pointer (some ⟨b14, 0, none⟩))), (3, (.pointer (some ⟨b29, 0, none⟩)))] := ⟨ρ, self_upds ⟨hb2, hb3, trivial⟩⟩
            refine WL_call (cap := []) en14 (lt' rfl) rfl rfl (f14_ok N hCd.lt (hCd.immAt (i := List.length X + 0) (base_at _ rfl))  y131 h132) ?_
            rintro _ w133 ⟨hk134, -⟩
            have hC135 := hCd.call hk134
            refine WL_nil ?_
            exact hK172 _ _ ⟨_, X, hC135, ⟨rfl, rfl⟩, (fun _ => rfl), hp1, hp2, hp3, hp4, hp5, hp6, hp7, hp8, hp9, hp10, hp11, hp12, hp13, hp14⟩
          · obtain rfl := Option.some.inj ho
            have he0 := hp0 (hpre173 0 rfl)
            obtain ⟨ρ1, rfl⟩ : ∃ ρ1, ρ = upds ρ1 [(2, (.pointer (some ⟨b14, 0, none⟩))), (3, (.pointer (some ⟨b29, 0, none⟩))), (14, (.bool y131))] := ⟨ρ, self_upds ⟨hb2, hb3, he0, trivial⟩⟩
            refine WL_move (v := (.bool y131)) (lt' rfl) rfl ?_
            refine WL_nil ?_
            exact hK172 _ _ ⟨_, X, hCd, ⟨rfl, rfl⟩, hp0, (fun _ => rfl), hp2, hp3, hp4, hp5, hp6, hp7, hp8, hp9, hp10, hp11, hp12, hp13, hp14⟩
          · obtain rfl := Option.some.inj ho
            have he1 := hp1 (hpre173 1 rfl)
            obtain ⟨ρ1, rfl⟩ : ∃ ρ1, ρ = upds ρ1 [(2, (.pointer (some ⟨b14, 0, none⟩))), (3, (.pointer (some ⟨b29, 0, none⟩))), (15, (.bool y131))] := ⟨ρ, self_upds ⟨hb2, hb3, he1, trivial⟩⟩
            refine WL_no rfl rfl rfl (by rw [h136]; rfl) (lt' rfl) ?_
            refine WL_nil ?_
            exact hK172 _ _ ⟨_, X, hCd, ⟨rfl, rfl⟩, hp0, hp1, (fun _ => rfl), hp3, hp4, hp5, hp6, hp7, hp8, hp9, hp10, hp11, hp12, hp13, hp14⟩
          · obtain rfl := Option.some.inj ho
            have he1 := hp1 (hpre173 1 rfl)
            obtain ⟨ρ1, rfl⟩ : ∃ ρ1, ρ = upds ρ1 [(2, (.pointer (some ⟨b14, 0, none⟩))), (3, (.pointer (some ⟨b29, 0, none⟩))), (15, (.bool y131))] := ⟨ρ, self_upds ⟨hb2, hb3, he1, trivial⟩⟩
            refine WL_no rfl rfl rfl (by rw [h136]; rfl) (lt' rfl) ?_
            refine WL_nil ?_
            exact hK172 _ _ ⟨_, X, hCd, ⟨rfl, rfl⟩, hp0, hp1, hp2, (fun _ => rfl), hp4, hp5, hp6, hp7, hp8, hp9, hp10, hp11, hp12, hp13, hp14⟩
          · obtain rfl := Option.some.inj ho
            have he1 := hp1 (hpre173 1 rfl)
            have he2 := hp2 (hpre173 2 rfl)
            have he3 := hp3 (hpre173 3 rfl)
            obtain ⟨ρ1, rfl⟩ : ∃ ρ1, ρ = upds ρ1 [(2, (.pointer (some ⟨b14, 0, none⟩))), (3, (.pointer (some ⟨b29, 0, none⟩))), (15, (.bool y131)), (16, undef), (17, undef)] := ⟨ρ, self_upds ⟨hb2, hb3, he1, he2, he3, trivial⟩⟩
            refine WL_no rfl rfl rfl (by rw [h136]; rfl) (lt' rfl) ?_
            refine WL_nil ?_
            exact hK172 _ _ ⟨_, X, hCd, ⟨rfl, rfl⟩, hp0, hp1, hp2, hp3, (fun _ => rfl), hp5, hp6, hp7, hp8, hp9, hp10, hp11, hp12, hp13, hp14⟩
          · obtain rfl := Option.some.inj ho
            have he1 := hp1 (hpre173 1 rfl)
            obtain ⟨ρ1, rfl⟩ : ∃ ρ1, ρ = upds ρ1 [(2, (.pointer (some ⟨b14, 0, none⟩))), (3, (.pointer (some ⟨b29, 0, none⟩))), (15, (.bool y131))] := ⟨ρ, self_upds ⟨hb2, hb3, he1, trivial⟩⟩
            refine WL_no rfl rfl rfl (by rw [h136]; rfl) (lt' rfl) ?_
            refine WL_nil ?_
            exact hK172 _ _ ⟨_, X, hCd, ⟨rfl, rfl⟩, hp0, hp1, hp2, hp3, hp4, (fun _ => rfl), hp6, hp7, hp8, hp9, hp10, hp11, hp12, hp13, hp14⟩
          · obtain rfl := Option.some.inj ho
            have he1 := hp1 (hpre173 1 rfl)
            obtain ⟨ρ1, rfl⟩ : ∃ ρ1, ρ = upds ρ1 [(2, (.pointer (some ⟨b14, 0, none⟩))), (3, (.pointer (some ⟨b29, 0, none⟩))), (15, (.bool y131))] := ⟨ρ, self_upds ⟨hb2, hb3, he1, trivial⟩⟩
            refine WL_no rfl rfl rfl (by rw [h136]; rfl) (lt' rfl) ?_
            refine WL_nil ?_
            exact hK172 _ _ ⟨_, X, hCd, ⟨rfl, rfl⟩, hp0, hp1, hp2, hp3, hp4, hp5, (fun _ => rfl), hp7, hp8, hp9, hp10, hp11, hp12, hp13, hp14⟩
          · obtain rfl := Option.some.inj ho
            have he1 := hp1 (hpre173 1 rfl)
            have he5 := hp5 (hpre173 5 rfl)
            have he6 := hp6 (hpre173 6 rfl)
            obtain ⟨ρ1, rfl⟩ : ∃ ρ1, ρ = upds ρ1 [(2, (.pointer (some ⟨b14, 0, none⟩))), (3, (.pointer (some ⟨b29, 0, none⟩))), (15, (.bool y131)), (19, undef), (20, undef)] := ⟨ρ, self_upds ⟨hb2, hb3, he1, he5, he6, trivial⟩⟩
            refine WL_no rfl rfl rfl (by rw [h136]; rfl) (lt' rfl) ?_
            refine WL_nil ?_
            exact hK172 _ _ ⟨_, X, hCd, ⟨rfl, rfl⟩, hp0, hp1, hp2, hp3, hp4, hp5, hp6, (fun _ => rfl), hp8, hp9, hp10, hp11, hp12, hp13, hp14⟩
          · obtain rfl := Option.some.inj ho
            have he1 := hp1 (hpre173 1 rfl)
            have he4 := hp4 (hpre173 4 rfl)
            have he7 := hp7 (hpre173 7 rfl)
            obtain ⟨ρ1, rfl⟩ : ∃ ρ1, ρ = upds ρ1 [(2, (.pointer (some ⟨b14, 0, none⟩))), (3, (.pointer (some ⟨b29, 0, none⟩))), (15, (.bool y131)), (18, undef), (21, undef)] := ⟨ρ, self_upds ⟨hb2, hb3, he1, he4, he7, trivial⟩⟩
            refine WL_no rfl rfl rfl (by rw [h136]; rfl) (lt' rfl) ?_
            refine WL_nil ?_
            exact hK172 _ _ ⟨_, X, hCd, ⟨rfl, rfl⟩, hp0, hp1, hp2, hp3, hp4, hp5, hp6, hp7, (fun _ => rfl), hp9, hp10, hp11, hp12, hp13, hp14⟩
          · obtain rfl := Option.some.inj ho
            have he1 := hp1 (hpre173 1 rfl)
            have he8 := hp8 (hpre173 8 rfl)
            obtain ⟨ρ1, rfl⟩ : ∃ ρ1, ρ = upds ρ1 [(2, (.pointer (some ⟨b14, 0, none⟩))), (3, (.pointer (some ⟨b29, 0, none⟩))), (15, (.bool y131)), (22, undef)] := ⟨ρ, self_upds ⟨hb2, hb3, he1, he8, trivial⟩⟩
            refine WL_pickF (v := (.bool false)) (lt' rfl) (by show Value.bool _ = _; rw [h136]) rfl ?_
            refine WL_nil ?_
            exact hK172 _ _ ⟨_, X, hCd, ⟨rfl, rfl⟩, hp0, hp1, hp2, hp3, hp4, hp5, hp6, hp7, hp8, (fun _ => rfl), hp10, hp11, hp12, hp13, hp14⟩
          · obtain rfl := Option.some.inj ho
            have he9 := hp9 (hpre173 9 rfl)
            obtain ⟨ρ1, rfl⟩ : ∃ ρ1, ρ = upds ρ1 [(2, (.pointer (some ⟨b14, 0, none⟩))), (3, (.pointer (some ⟨b29, 0, none⟩))), (23, (.bool false))] := ⟨ρ, self_upds ⟨hb2, hb3, he9, trivial⟩⟩
            refine WL_move (v := (.bool false)) (lt' rfl) rfl ?_
            refine WL_nil ?_
            exact hK172 _ _ ⟨_, X, hCd, ⟨rfl, rfl⟩, hp0, hp1, hp2, hp3, hp4, hp5, hp6, hp7, hp8, hp9, (fun _ => rfl), hp11, hp12, hp13, hp14⟩
          · obtain rfl := Option.some.inj ho
            have he10 := hp10 (hpre173 10 rfl)
            obtain ⟨ρ1, rfl⟩ : ∃ ρ1, ρ = upds ρ1 [(2, (.pointer (some ⟨b14, 0, none⟩))), (3, (.pointer (some ⟨b29, 0, none⟩))), (24, (.bool false))] := ⟨ρ, self_upds ⟨hb2, hb3, he10, trivial⟩⟩
            refine WL_no rfl rfl rfl rfl (lt' rfl) ?_
            refine WL_nil ?_
            exact hK172 _ _ ⟨_, X, hCd, ⟨rfl, rfl⟩, hp0, hp1, hp2, hp3, hp4, hp5, hp6, hp7, hp8, hp9, hp10, (fun _ => rfl), hp12, hp13, hp14⟩
          · obtain rfl := Option.some.inj ho
            have he10 := hp10 (hpre173 10 rfl)
            obtain ⟨ρ1, rfl⟩ : ∃ ρ1, ρ = upds ρ1 [(2, (.pointer (some ⟨b14, 0, none⟩))), (3, (.pointer (some ⟨b29, 0, none⟩))), (24, (.bool false))] := ⟨ρ, self_upds ⟨hb2, hb3, he10, trivial⟩⟩
            refine WL_no rfl rfl rfl rfl (lt' rfl) ?_
            refine WL_nil ?_
            exact hK172 _ _ ⟨_, X, hCd, ⟨rfl, rfl⟩, hp0, hp1, hp2, hp3, hp4, hp5, hp6, hp7, hp8, hp9, hp10, hp11, (fun _ => rfl), hp13, hp14⟩
          · obtain rfl := Option.some.inj ho
            have he10 := hp10 (hpre173 10 rfl)
            have he11 := hp11 (hpre173 11 rfl)
            have he12 := hp12 (hpre173 12 rfl)
            obtain ⟨ρ1, rfl⟩ : ∃ ρ1, ρ = upds ρ1 [(2, (.pointer (some ⟨b14, 0, none⟩))), (3, (.pointer (some ⟨b29, 0, none⟩))), (24, (.bool false)), (25, undef), (26, undef)] := ⟨ρ, self_upds ⟨hb2, hb3, he10, he11, he12, trivial⟩⟩
            refine WL_no rfl rfl rfl rfl (lt' rfl) ?_
            refine WL_nil ?_
            exact hK172 _ _ ⟨_, X, hCd, ⟨rfl, rfl⟩, hp0, hp1, hp2, hp3, hp4, hp5, hp6, hp7, hp8, hp9, hp10, hp11, hp12, (fun _ => rfl), hp14⟩
          · obtain rfl := Option.some.inj ho
            have he10 := hp10 (hpre173 10 rfl)
            have he13 := hp13 (hpre173 13 rfl)
            obtain ⟨ρ1, rfl⟩ : ∃ ρ1, ρ = upds ρ1 [(2, (.pointer (some ⟨b14, 0, none⟩))), (3, (.pointer (some ⟨b29, 0, none⟩))), (24, (.bool false)), (27, undef)] := ⟨ρ, self_upds ⟨hb2, hb3, he10, he13, trivial⟩⟩
            refine WL_pickF (v := (.bool false)) (lt' rfl) rfl rfl ?_
            refine WL_nil ?_
            exact hK172 _ _ ⟨_, X, hCd, ⟨rfl, rfl⟩, hp0, hp1, hp2, hp3, hp4, hp5, hp6, hp7, hp8, hp9, hp10, hp11, hp12, hp13, (fun _ => rfl)⟩
        · intro S174 ρ w177 hall175 hI
          obtain ⟨O176, X, hC178, ⟨hb2, hb3⟩, hp0, hp1, hp2, hp3, hp4, hp5, hp6, hp7, hp8, hp9, hp10, hp11, hp12, hp13, hp14⟩ := hI
          have he14 := hp14 (hall175 14 (by decide))
          obtain ⟨ρ1, rfl⟩ : ∃ ρ1, ρ = upds ρ1 [(2, (.pointer (some ⟨b14, 0, none⟩))), (3, (.pointer (some ⟨b29, 0, none⟩))), (28, (.bool false))] := ⟨ρ, self_upds ⟨hb2, hb3, he14, trivial⟩⟩
          have hC179 := hC178.ofX (Ln := []) (by intro f hf; cases hf) (by simp [Fact.own])
          refine WL_assign (v := (.bool false)) (lt' rfl) rfl ?_
          refine WL_nil ?_
          exact kj129 () _ _ ⟨false, _, _, self_upds ⟨rfl, trivial⟩, hC179.pick [0] (by decide) rfl, H⟩
    · rintro - - w128 ⟨x125, ρ0, O127, rfl, hC126, H⟩
      refine W_ret ?_
      obtain rfl := Option.some.inj H
      exact Exists.intro () (And.intro rfl (And.intro hC126.keep trivial))

end Go.Proofs.YtflgkiddnmpfbaaGreatDoor
