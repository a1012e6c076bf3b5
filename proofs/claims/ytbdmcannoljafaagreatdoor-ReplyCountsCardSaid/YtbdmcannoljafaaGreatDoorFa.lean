import Derived.Test.YtbdmcannoljafaaGreatDoorGxR
import Derived.Test.YtbdmcannoljafaaGreatDoorAl
set_option linter.unusedVariables false
namespace Go.Proofs.YtbdmcannoljafaaGreatDoor
open Go Go.Gx Go.Mx
structure ApiResponse where
  Kind : Int
  N : Int
  Tag : List UInt8
  Status : Int
  Text : List UInt8
  Items : Int
  Flags : UInt8
  UID : Int
  Size : Int
  Body : List UInt8
  deriving DecidableEq
def rApiResponse : Rp ApiResponse := Rp.via (Rp.pair (rInt .i64) (Rp.pair (rInt .u32) (Rp.pair rStr (Rp.pair (rInt .i64) (Rp.pair rStr (Rp.pair (rInt .i64) (Rp.pair rU8 (Rp.pair (rInt .u32) (Rp.pair (rInt .u32) (Rp.sl rU8)))))))))) fun x => (x.Kind, x.N, x.Tag, x.Status, x.Text, x.Items, x.Flags, x.UID, x.Size, x.Body)
theorem rApiResponse_Kind : SubAt rApiResponse 0 (rInt .i64) (fun x => x.Kind) := sub_via (sub_fst _ _)
theorem rApiResponse_N : SubAt rApiResponse 1 (rInt .u32) (fun x => x.N) := sub_via (sub_snd _ (sub_fst _ _))
theorem rApiResponse_Tag : SubAt rApiResponse 2 rStr (fun x => x.Tag) := sub_via (sub_snd _ (sub_snd _ (sub_fst _ _)))
theorem rApiResponse_Status : SubAt rApiResponse 3 (rInt .i64) (fun x => x.Status) := sub_via (sub_snd _ (sub_snd _ (sub_snd _ (sub_fst _ _))))
theorem rApiResponse_Text : SubAt rApiResponse 4 rStr (fun x => x.Text) := sub_via (sub_snd _ (sub_snd _ (sub_snd _ (sub_snd _ (sub_fst _ _)))))
theorem rApiResponse_Items : SubAt rApiResponse 5 (rInt .i64) (fun x => x.Items) := sub_via (sub_snd _ (sub_snd _ (sub_snd _ (sub_snd _ (sub_snd _ (sub_fst _ _))))))
theorem rApiResponse_Flags : SubAt rApiResponse 6 rU8 (fun x => x.Flags) := sub_via (sub_snd _ (sub_snd _ (sub_snd _ (sub_snd _ (sub_snd _ (sub_snd _ (sub_fst _ _)))))))
theorem rApiResponse_UID : SubAt rApiResponse 7 (rInt .u32) (fun x => x.UID) := sub_via (sub_snd _ (sub_snd _ (sub_snd _ (sub_snd _ (sub_snd _ (sub_snd _ (sub_snd _ (sub_fst _ _))))))))
theorem rApiResponse_Size : SubAt rApiResponse 8 (rInt .u32) (fun x => x.Size) := sub_via (sub_snd _ (sub_snd _ (sub_snd _ (sub_snd _ (sub_snd _ (sub_snd _ (sub_snd _ (sub_snd _ (sub_fst _ _)))))))))
theorem rApiResponse_Body : SubAt rApiResponse 9 (Rp.sl rU8) (fun x => x.Body) := sub_via (sub_snd _ (sub_snd _ (sub_snd _ (sub_snd _ (sub_snd _ (sub_snd _ (sub_snd _ (sub_snd _ (sub_snd _ (sub_all _))))))))))
theorem rApiResponse_shape {O : List Nat} {w : World} {cs : List Value} {x : ApiResponse} (h : rApiResponse.rel O w cs x) : ∃ a0 c0, cs = [.int .i64 x.Kind, .int .u32 x.N, vstr x.Tag, .int .i64 x.Status, vstr x.Text, .int .i64 x.Items, .int .u8 ((UInt8.toNat x.Flags : Nat) : Int), .int .u32 x.UID, .int .u32 x.Size, .slice a0 (List.length x.Body) c0] ∧ Rp.rel (Rp.sl rU8) O w [.slice a0 (List.length x.Body) c0] x.Body := by
  obtain ⟨k0, m0, rfl, g0, t0⟩ := h
  obtain ⟨k1, m1, rfl, g1, t1⟩ := t0
  obtain ⟨k2, m2, rfl, g2, t2⟩ := t1
  obtain ⟨k3, m3, rfl, g3, t3⟩ := t2
  obtain ⟨k4, m4, rfl, g4, t4⟩ := t3
  obtain ⟨k5, m5, rfl, g5, t5⟩ := t4
  obtain ⟨k6, m6, rfl, g6, t6⟩ := t5
  obtain ⟨k7, m7, rfl, g7, t7⟩ := t6
  obtain ⟨k8, m8, rfl, g8, t8⟩ := t7
  have g9 := t8
  obtain rfl : _ = [_] := g0
  obtain rfl : _ = [_] := g1
  obtain rfl : _ = [_] := g2
  obtain rfl : _ = [_] := g3
  obtain rfl : _ = [_] := g4
  obtain rfl : _ = [_] := g5
  obtain rfl : _ = [_] := g6
  obtain rfl : _ = [_] := g7
  obtain rfl : _ = [_] := g8
  obtain ⟨a0, c0, q0, rfl, u0⟩ := g9
  exact ⟨a0, c0, rfl, ⟨a0, c0, q0, rfl, u0⟩⟩
theorem rApiResponse_mk {O : List Nat} {w : World} {x : ApiResponse} {a0 : Option Addr} {c0 : Nat} (h0 : Rp.rel (Rp.sl rU8) O w [.slice a0 (List.length x.Body) c0] x.Body) : rApiResponse.rel O w [.int .i64 x.Kind, .int .u32 x.N, vstr x.Tag, .int .i64 x.Status, vstr x.Text, .int .i64 x.Items, .int .u8 ((UInt8.toNat x.Flags : Nat) : Int), .int .u32 x.UID, .int .u32 x.Size, .slice a0 (List.length x.Body) c0] x := ⟨_, _, rfl, rfl, ⟨_, _, rfl, rfl, ⟨_, _, rfl, rfl, ⟨_, _, rfl, rfl, ⟨_, _, rfl, rfl, ⟨_, _, rfl, rfl, ⟨_, _, rfl, rfl, ⟨_, _, rfl, rfl, ⟨_, _, rfl, rfl, h0⟩⟩⟩⟩⟩⟩⟩⟩⟩
theorem en6 : Enters Tryz.prog 6 := Enters.mk Tryz.func6 (by kernel_rfl) (by kernel_rfl)
theorem en7 : Enters Tryz.prog 7 := Enters.mk Tryz.func7 (by kernel_rfl) (by kernel_rfl)
theorem en8 : Enters Tryz.prog 8 := Enters.mk Tryz.func8 (by kernel_rfl) (by kernel_rfl)
def F7 (N : Nat) : Option Bool := some true
theorem f7_ok (N : Nat) {O0 : List Nat} {w0 : World} (hO : ∀ b, b ∈ O0 → b < w0.heap.size) (hG : rGlob.rel O0 w0 [] ()) (y : Bool) (H : F7 N = some y) :
    Calls Tryz.prog 7 (List.toArray []) w0 fun e w => ∃ z : Unit, e = .returned (.bool y) ∧ Keep [] w0 w ∧ True := by
  cases H
  obtain ⟨_, W0, ⟨hgl, Gg, hL, hc⟩, h1, h2⟩ := hG
  exact (closed_keep hmo hng (hok_ext tab xfn) hL h1 (fun b hb => (h2 b hb).2) (retIs_spec (hc.a7))).mono fun e w h => ⟨(), h.1, h.2, trivial⟩
-- cubbyhole/cubbyholeref09.Few
def F6_j1 (N : Nat) (p0 : List ApiResponse) : Option Bool :=
  some (decide (((p0.length : Int) : Int) ≤ (60 : Int)))
def F6_j2 (N : Nat) (p0 : List ApiResponse) (x7 : Int) (kc0 : Int → Option Bool) : Option Bool :=
  kc0 (IntKind.wrap .i64 ((x7 : Int) + (1 : Int)))
def F6_j3 (N : Nat) (p0 : List ApiResponse) (x7 : Int) (kc0 : Int → Option Bool) (x21 : Bool) : Option Bool :=
  (if x21 = true then some false else F6_j2 N p0 x7 kc0 )
def F6_l1 (N : Nat) (p0 : List ApiResponse) : Nat → Int → Option Bool
  | 0, _ => none
  | m11 + 1, x7 =>
    (if (decide ((x7 : Int) < ((p0.length : Int) : Int))) = true then Option.bind (sget p0 x7) fun x27 => (if (decide ((100 : Int) < ((x27.Tag.length : Int) : Int))) = true then F6_j3 N p0 x7 (F6_l1 N p0  m11) true else Option.bind (sget p0 x7) fun x34 => (if (decide ((300 : Int) < ((x34.Text.length : Int) : Int))) = true then F6_j3 N p0 x7 (F6_l1 N p0  m11) true else Option.bind (sget p0 x7) fun x41 => F6_j3 N p0 x7 (F6_l1 N p0  m11) (decide ((500 : Int) < ((x41.Body.length : Int) : Int))))) else F6_j1 N p0  )
def F6 (N : Nat) (p0 : List ApiResponse) : Option Bool :=
  F6_l1 N p0  N 0
set_option maxRecDepth 100000 in
set_option maxHeartbeats 4000000 in
theorem f6_ok (N : Nat) {O0 : List Nat} {w0 : World} (hO : ∀ b, b ∈ O0 → b < w0.heap.size) (hG : rGlob.rel O0 w0 [] ()) (pa0 : Option Addr) (pc0 : Nat) (p0 : List ApiResponse) (ph0 : Rp.rel (Rp.sl rApiResponse) O0 w0 [.slice pa0 (List.length p0) pc0] p0) (y : Bool) (H : F6 N p0 = some y) :
    Calls Tryz.prog 6 (List.toArray [(.slice pa0 (List.length p0) pc0)]) w0 fun e w => ∃ z : Unit, e = .returned (.bool y) ∧ Keep [] w0 w ∧ True := by
  have hNK : ∀ b : Nat, b ∈ ([] : List Nat) → False := by intro b h; cases h
  have hC := (((Ctx.start hO).imm hG).imm ph0)
  refine calls_of_W (ts := [2]) Tryz.func6 rfl rfl Tryz.ntmps6 (Nat.le_of_ble_eq_true rfl) ?_
  refine W_seq ?_
  refine W_region ?_
  refine WL_assign (v := (.bool false)) (lt' rfl) rfl ?_
  refine WL_nil ?_
  refine W_joinS Unit (fun (_ : Unit) (ρ : Env) (w : World) => ∃ (ρ0 : Env) (O : List Nat), ρ = upds ρ0 [(0, (.slice pa0 (List.length p0) pc0))] ∧ Ctx O0 [] w0 O w [.imm rGlob [] (), .imm (Rp.sl rApiResponse) [.slice pa0 (List.length p0) pc0] p0] ∧ F6_j1 N p0   = some y) (fun K6 kj5 => ?_) ?_
  · skip
    refine W_seq ?_
    refine W_region ?_
    refine WL_assign (v := (.int .i64 0)) (lt' rfl) rfl ?_
    refine WL_nil ?_
    refine W_block ?_
    refine W_loop (fun m s => F6_l1 N p0  m s) (fun (s : Int) (ρ : Env) (w : World) => ∃ (ρ0 : Env) (O : List Nat), ρ = upds ρ0 [(0, (.slice pa0 (List.length p0) pc0)), (3, (.int .i64 s))] ∧ Ctx O0 [] w0 O w [.imm rGlob [] (), .imm (Rp.sl rApiResponse) [.slice pa0 (List.length p0) pc0] p0]) N 0 y (fun _ => rfl) H ⟨_, _, self_upds ⟨rfl, rfl, trivial⟩, hC.pick [1, 0] (by decide) rfl⟩ ?_
    clear H
    rintro K12 m11 x7 - w10 ih13 H ⟨ρ0, O9, rfl, hC8⟩
    refine W_seq ?_
    refine W_seq ?_
    refine W_region ?_
    refine WL_move (v := (.int .i64 x7)) (lt' rfl) rfl ?_
    refine WL_move (v := (.slice pa0 (List.length p0) pc0)) (lt' rfl) rfl ?_
    refine WL_llen Tryz.underlying22 (lt' rfl) rfl ?_
    refine WL_ilss (a := (x7 : Int)) (b := ((p0.length : Int) : Int)) (lt' rfl) rfl rfl ?_
    refine WL_nil ?_
    refine W_cond (t := (decide ((x7 : Int) < ((p0.length : Int) : Int)))) rfl (fun h15 => ?_) (fun h15 => ?_)
    · have H := iteT h15 H
      refine W_skip ?_
      refine W_joinS Unit (fun (_ : Unit) (ρ : Env) (w : World) => ∃ (ρ0 : Env) (O : List Nat), ρ = upds ρ0 [(0, (.slice pa0 (List.length p0) pc0)), (3, (.int .i64 x7))] ∧ Ctx O0 [] w0 O w [.imm rGlob [] (), .imm (Rp.sl rApiResponse) [.slice pa0 (List.length p0) pc0] p0] ∧ F6_j2 N p0 x7 (F6_l1 N p0  m11)  = some y) (fun K20 kj19 => ?_) ?_
      · skip
        refine W_block ?_
        refine W_joinS Unit (fun (_ : Unit) (ρ : Env) (w : World) => ∃ (x21 : Bool) (ρ0 : Env) (O : List Nat), ρ = upds ρ0 [(0, (.slice pa0 (List.length p0) pc0)), (3, (.int .i64 x7)), (34, (.bool x21))] ∧ Ctx O0 [] w0 O w [.imm rGlob [] (), .imm (Rp.sl rApiResponse) [.slice pa0 (List.length p0) pc0] p0] ∧ F6_j3 N p0 x7 (F6_l1 N p0  m11) x21 = some y) (fun K26 kj25 => ?_) ?_
        · skip
          refine W_region ?_
          refine WL_move (v := (.slice pa0 (List.length p0) pc0)) (lt' rfl) rfl ?_
          refine WL_move (v := (.int .i64 x7)) (lt' rfl) rfl ?_
          obtain ⟨x27, h28, H⟩ := bindE H
          refine WL_indexAddr (r := rApiResponse) (k := .i64) (i := x7) (l := p0) (xx := x27) (hC8.immAt (i := 1) rfl) h28 Tryz.underlying22 Tryz.sizeOf30 (lt' rfl) rfl rfl (fun ad29 hE30 => ?_)
          refine WL_fieldElem hE30 rApiResponse_Tag Tryz.underlying30 rfl rfl Tryz.sizeOf9 (lt' rfl) rfl (fun ad31 hE32 => ?_)
          refine WL_loadF (xx := x27.Tag) hE32 Tryz.isAgg9 (lt' rfl) rfl ?_
          refine WL_slen (a := x27.Tag) Tryz.underlying9 (lt' rfl) rfl ?_
          refine WL_igtr (a := ((x27.Tag.length : Int) : Int)) (b := (100 : Int)) (lt' rfl) rfl rfl ?_
          refine WL_move (v := (.bool (decide ((100 : Int) < ((x27.Tag.length : Int) : Int))))) (lt' rfl) rfl ?_
          rcases Bool.eq_false_or_eq_true (decide ((100 : Int) < ((x27.Tag.length : Int) : Int))) with h33 | h33
          · have H := iteT h33 H
            refine WL_no rfl rfl rfl (by rw [h33]; rfl) (lt' rfl) ?_
            refine WL_no rfl rfl rfl (by rw [h33]; rfl) (lt' rfl) ?_
            refine WL_no rfl rfl rfl (by rw [h33]; rfl) (lt' rfl) ?_
            refine WL_no rfl rfl rfl (by rw [h33]; rfl) (lt' rfl) ?_
            refine WL_no rfl rfl rfl (by rw [h33]; rfl) (lt' rfl) ?_
            refine WL_no rfl rfl rfl (by rw [h33]; rfl) (lt' rfl) ?_
            refine WL_no rfl rfl rfl (by rw [h33]; rfl) (lt' rfl) ?_
            refine WL_pickT (v := (.bool true)) (lt' rfl) (by show Value.bool _ = _; rw [h33]) rfl ?_
            refine WL_move (v := (.bool true)) (lt' rfl) rfl ?_
            refine WL_no rfl rfl rfl rfl (lt' rfl) ?_
            refine WL_no rfl rfl rfl rfl (lt' rfl) ?_
            refine WL_no rfl rfl rfl rfl (lt' rfl) ?_
            refine WL_no rfl rfl rfl rfl (lt' rfl) ?_
            refine WL_no rfl rfl rfl rfl (lt' rfl) ?_
            refine WL_no rfl rfl rfl rfl (lt' rfl) ?_
            refine WL_no rfl rfl rfl rfl (lt' rfl) ?_
            refine WL_pickT (v := (.bool true)) (lt' rfl) rfl rfl ?_
            refine WL_nil ?_
            exact kj25 () _ _ ⟨true, _, _, self_upds ⟨rfl, rfl, rfl, trivial⟩, hC8.pick [0, 1] (by decide) rfl, H⟩
          · have H := iteF h33 H
            refine WL_yes rfl rfl rfl h33 ?_
            refine WL_move (v := (.slice pa0 (List.length p0) pc0)) (lt' rfl) rfl ?_
            refine WL_yes rfl rfl rfl h33 ?_
            refine WL_move (v := (.int .i64 x7)) (lt' rfl) rfl ?_
            refine WL_yes rfl rfl rfl h33 ?_
            obtain ⟨x34, h35, H⟩ := bindE H
            refine WL_indexAddr (r := rApiResponse) (k := .i64) (i := x7) (l := p0) (xx := x34) (hC8.immAt (i := 1) rfl) h35 Tryz.underlying22 Tryz.sizeOf30 (lt' rfl) rfl rfl (fun ad36 hE37 => ?_)
            refine WL_yes rfl rfl rfl h33 ?_
            refine WL_fieldElem hE37 rApiResponse_Text Tryz.underlying30 rfl rfl Tryz.sizeOf9 (lt' rfl) rfl (fun ad38 hE39 => ?_)
            refine WL_yes rfl rfl rfl h33 ?_
            refine WL_loadF (xx := x34.Text) hE39 Tryz.isAgg9 (lt' rfl) rfl ?_
            refine WL_yes rfl rfl rfl h33 ?_
            refine WL_slen (a := x34.Text) Tryz.underlying9 (lt' rfl) rfl ?_
            refine WL_yes rfl rfl rfl h33 ?_
            refine WL_igtr (a := ((x34.Text.length : Int) : Int)) (b := (300 : Int)) (lt' rfl) rfl rfl ?_
            refine WL_pickF (v := (.bool (decide ((300 : Int) < ((x34.Text.length : Int) : Int))))) (lt' rfl) (by show Value.bool _ = _; rw [h33]) rfl ?_
            refine WL_move (v := (.bool (decide ((300 : Int) < ((x34.Text.length : Int) : Int))))) (lt' rfl) rfl ?_
            rcases Bool.eq_false_or_eq_true (decide ((300 : Int) < ((x34.Text.length : Int) : Int))) with h40 | h40
            · have H := iteT h40 H
              refine WL_no rfl rfl rfl (by rw [h40]; rfl) (lt' rfl) ?_
              refine WL_no rfl rfl rfl (by rw [h40]; rfl) (lt' rfl) ?_
              refine WL_no rfl rfl rfl (by rw [h40]; rfl) (lt' rfl) ?_
              refine WL_no rfl rfl rfl (by rw [h40]; rfl) (lt' rfl) ?_
              refine WL_no rfl rfl rfl (by rw [h40]; rfl) (lt' rfl) ?_
              refine WL_no rfl rfl rfl (by rw [h40]; rfl) (lt' rfl) ?_
              refine WL_no rfl rfl rfl (by rw [h40]; rfl) (lt' rfl) ?_
              refine WL_pickT (v := (.bool true)) (lt' rfl) (by show Value.bool _ = _; rw [h40]) rfl ?_
              refine WL_nil ?_
              exact kj25 () _ _ ⟨true, _, _, self_upds ⟨rfl, rfl, rfl, trivial⟩, hC8.pick [0, 1] (by decide) rfl, H⟩
            · have H := iteF h40 H
              refine WL_yes rfl rfl rfl h40 ?_
              refine WL_move (v := (.slice pa0 (List.length p0) pc0)) (lt' rfl) rfl ?_
              refine WL_yes rfl rfl rfl h40 ?_
              refine WL_move (v := (.int .i64 x7)) (lt' rfl) rfl ?_
              refine WL_yes rfl rfl rfl h40 ?_
              obtain ⟨x41, h42, H⟩ := bindE H
              refine WL_indexAddr (r := rApiResponse) (k := .i64) (i := x7) (l := p0) (xx := x41) (hC8.immAt (i := 1) rfl) h42 Tryz.underlying22 Tryz.sizeOf30 (lt' rfl) rfl rfl (fun ad43 hE44 => ?_)
              refine WL_yes rfl rfl rfl h40 ?_
              refine WL_fieldElem hE44 rApiResponse_Body Tryz.underlying30 rfl rfl Tryz.sizeOf28 (lt' rfl) rfl (fun ad45 hE46 => ?_)
              refine WL_yes rfl rfl rfl h40 ?_
              refine WL_load1 hE46 rfl Tryz.isAgg28 (lt' rfl) rfl (fun v47 hv48 => ?_)
              obtain ⟨a49, c50, rfl⟩ := sl_shape hv48
              have hC51 := hC8.imm hv48
              refine WL_yes rfl rfl rfl h40 ?_
              refine WL_llen Tryz.underlying28 (lt' rfl) rfl ?_
              refine WL_yes rfl rfl rfl h40 ?_
              refine WL_igtr (a := ((x41.Body.length : Int) : Int)) (b := (500 : Int)) (lt' rfl) rfl rfl ?_
              refine WL_pickF (v := (.bool (decide ((500 : Int) < ((x41.Body.length : Int) : Int))))) (lt' rfl) (by show Value.bool _ = _; rw [h40]) rfl ?_
              refine WL_nil ?_
              exact kj25 () _ _ ⟨(decide ((500 : Int) < ((x41.Body.length : Int) : Int))), _, _, self_upds ⟨rfl, rfl, rfl, trivial⟩, hC51.pick [1, 2] (by decide) rfl, H⟩
        · rintro - - w24 ⟨x21, ρ0, O23, rfl, hC22, H⟩
          refine W_cond (t := x21) rfl (fun h53 => ?_) (fun h53 => ?_)
          · have H := iteT h53 H
            refine W_seq ?_
            refine W_region ?_
            refine WL_assign (v := (.bool false)) (lt' rfl) rfl ?_
            refine WL_nil ?_
            refine W_ret ?_
            obtain rfl := Option.some.inj H
            exact Exists.intro () (And.intro rfl (And.intro hC22.keep trivial))
          · have H := iteF h53 H
            refine W_skip ?_
            exact kj19 () _ _ ⟨_, _, self_upds ⟨rfl, rfl, trivial⟩, hC22.pick [0, 1] (by decide) rfl, H⟩
      · rintro - - w18 ⟨ρ0, O17, rfl, hC16, H⟩
        refine W_region ?_
        refine WL_move (v := (.int .i64 x7)) (lt' rfl) rfl ?_
        refine WL_iadd (a := (x7 : Int)) (b := (1 : Int)) (lt' rfl) rfl rfl ?_
        refine WL_assign (v := (.int .i64 (IntKind.wrap .i64 ((x7 : Int) + (1 : Int))))) (lt' rfl) rfl ?_
        refine WL_nil ?_
        exact ih13 (IntKind.wrap .i64 ((x7 : Int) + (1 : Int))) _ _ H ⟨_, _, self_upds ⟨rfl, rfl, trivial⟩, hC16.pick [0, 1] (by decide) rfl⟩
    · have H := iteF h15 H
      refine W_exit ?_
      exact kj5 () _ _ ⟨_, _, self_upds ⟨rfl, trivial⟩, hC8.pick [0, 1] (by decide) rfl, H⟩
  · rintro - - w4 ⟨ρ0, O3, rfl, hC2, H⟩
    refine W_seq ?_
    refine W_region ?_
    refine WL_move (v := (.slice pa0 (List.length p0) pc0)) (lt' rfl) rfl ?_
    refine WL_llen Tryz.underlying22 (lt' rfl) rfl ?_
    refine WL_ileq (a := ((p0.length : Int) : Int)) (b := (60 : Int)) (lt' rfl) rfl rfl ?_
    refine WL_assign (v := (.bool (decide (((p0.length : Int) : Int) ≤ (60 : Int))))) (lt' rfl) rfl ?_
    refine WL_nil ?_
    refine W_ret ?_
    obtain rfl := Option.some.inj H
    exact Exists.intro () (And.intro rfl (And.intro hC2.keep trivial))

-- cubbyhole/reply.Count
def F8_j1 (N : Nat) (x2 : Int) : Option Int :=
  some x2
def F8_j2 (N : Nat) (p0 : Int) (p1 : List ApiResponse) (x9 : Int) (x10 : Int) (kc0 : (Int × Int × Int) → Option Int) (x19 : Int) : Option Int :=
  kc0 (x19, x9, (IntKind.wrap .i64 ((x10 : Int) + (1 : Int))))
def F8_l1 (N : Nat) (p0 : Int) (p1 : List ApiResponse) : Nat → (Int × Int × Int) → Option Int
  | 0, _ => none
  | m14 + 1, (x8, x9, x10) =>
    (if (decide ((x10 : Int) < (x9 : Int))) = true then Option.bind (sget p1 x10) fun x25 => (if ((x25.Kind : Int) == (p0 : Int)) = true then F8_j2 N p0 p1 x9 x10 (F8_l1 N p0 p1  m14) (IntKind.wrap .i64 ((x8 : Int) + (1 : Int))) else F8_j2 N p0 p1 x9 x10 (F8_l1 N p0 p1  m14) x8) else F8_j1 N   x8)
def F8 (N : Nat) (p0 : Int) (p1 : List ApiResponse) : Option Int :=
  F8_l1 N p0 p1  N (0, (p1.length : Int), 0)
set_option maxRecDepth 100000 in
set_option maxHeartbeats 4000000 in
theorem f8_ok (N : Nat) {O0 : List Nat} {w0 : World} (hO : ∀ b, b ∈ O0 → b < w0.heap.size) (hG : rGlob.rel O0 w0 [] ()) (p0 : Int) (pa1 : Option Addr) (pc1 : Nat) (p1 : List ApiResponse) (ph1 : Rp.rel (Rp.sl rApiResponse) O0 w0 [.slice pa1 (List.length p1) pc1] p1) (y : Int) (H : F8 N p0 p1 = some y) :
    Calls Tryz.prog 8 (List.toArray [(.int .i64 p0), (.slice pa1 (List.length p1) pc1)]) w0 fun e w => ∃ z : Unit, e = .returned (.int .i64 y) ∧ Keep [] w0 w ∧ True := by
  have hNK : ∀ b : Nat, b ∈ ([] : List Nat) → False := by intro b h; cases h
  have hC := (((Ctx.start hO).imm hG).imm ph1)
  refine calls_of_W (ts := [4]) Tryz.func8 rfl rfl Tryz.ntmps8 (Nat.le_of_ble_eq_true rfl) ?_
  refine W_seq ?_
  refine W_region ?_
  refine WL_assign (v := (.int .i64 0)) (lt' rfl) rfl ?_
  refine WL_nil ?_
  refine W_seq ?_
  refine W_region ?_
  refine WL_assign (v := (.int .i64 0)) (lt' rfl) rfl ?_
  refine WL_nil ?_
  refine W_joinS Unit (fun (_ : Unit) (ρ : Env) (w : World) => ∃ (x2 : Int) (ρ0 : Env) (O : List Nat), ρ = upds ρ0 [(5, (.int .i64 x2))] ∧ Ctx O0 [] w0 O w [.imm rGlob [] ()] ∧ F8_j1 N   x2 = some y) (fun K7 kj6 => ?_) ?_
  · skip
    refine W_seq ?_
    refine W_region ?_
    refine WL_move (v := (.slice pa1 (List.length p1) pc1)) (lt' rfl) rfl ?_
    refine WL_llen Tryz.underlying22 (lt' rfl) rfl ?_
    refine WL_move (v := (.int .i64 0)) (lt' rfl) rfl ?_
    refine WL_nil ?_
    refine W_block ?_
    refine W_loop (fun m s => F8_l1 N p0 p1  m s) (fun (s : Int × Int × Int) (ρ : Env) (w : World) => ∃ (ρ0 : Env) (O : List Nat), ρ = upds ρ0 [(0, (.int .i64 p0)), (5, (.int .i64 s.1)), (8, (.slice pa1 (List.length p1) pc1)), (9, (.int .i64 s.2.1)), (10, (.int .i64 s.2.2))] ∧ Ctx O0 [] w0 O w [.imm rGlob [] (), .imm (Rp.sl rApiResponse) [.slice pa1 (List.length p1) pc1] p1]) N (0, (p1.length : Int), 0) y (fun _ => rfl) H ⟨_, _, self_upds ⟨rfl, rfl, rfl, rfl, rfl, trivial⟩, hC.pick [1, 0] (by decide) rfl⟩ ?_
    clear H
    rintro K15 m14 ⟨x8, x9, x10⟩ - w13 ih16 H ⟨ρ0, O12, rfl, hC11⟩
    refine W_seq ?_
    refine W_region ?_
    refine WL_ilss (a := (x10 : Int)) (b := (x9 : Int)) (lt' rfl) rfl rfl ?_
    refine WL_nil ?_
    refine W_seq ?_
    refine W_cond (t := (decide ((x10 : Int) < (x9 : Int)))) rfl (fun h18 => ?_) (fun h18 => ?_)
    · have H := iteT h18 H
      refine W_skip ?_
      refine W_joinS Unit (fun (_ : Unit) (ρ : Env) (w : World) => ∃ (x19 : Int) (ρ0 : Env) (O : List Nat), ρ = upds ρ0 [(0, (.int .i64 p0)), (5, (.int .i64 x19)), (8, (.slice pa1 (List.length p1) pc1)), (9, (.int .i64 x9)), (10, (.int .i64 x10))] ∧ Ctx O0 [] w0 O w [.imm rGlob [] (), .imm (Rp.sl rApiResponse) [.slice pa1 (List.length p1) pc1] p1] ∧ F8_j2 N p0 p1 x9 x10 (F8_l1 N p0 p1  m14) x19 = some y) (fun K24 kj23 => ?_) ?_
      · skip
        refine W_block ?_
        refine W_seq ?_
        refine W_region ?_
        obtain ⟨x25, h26, H⟩ := bindE H
        refine WL_indexAddr (r := rApiResponse) (k := .i64) (i := x10) (l := p1) (xx := x25) (hC11.immAt (i := 1) rfl) h26 Tryz.underlying22 Tryz.sizeOf30 (lt' rfl) rfl rfl (fun ad27 hE28 => ?_)
        refine WL_loadA hE28 Tryz.isAgg30 Tryz.sizeOf30 (lt' rfl) rfl (fun cs29 hv30 => ?_)
        have hC31 := hC11.imm hv30
        refine WL_alloc (cells := [(.int .i64 0), (.int .u32 0), (vstr ([] : List UInt8)), (.int .i64 0), (vstr ([] : List UInt8)), (.int .i64 0), (.int .u8 ((UInt8.toNat 0 : Nat) : Int)), (.int .u32 0), (.int .u32 0), (.slice none (List.length ([] : List UInt8)) 0)]) hC31 Tryz.zeroValue30 rfl (lt' rfl) (fun b33 w34 hC35 => ?_)
        have hx40 := hC35.immAt (i := 1) rfl
        obtain ⟨a37, c38, rfl, hs39⟩ := rApiResponse_shape hx40
        have hC41 := hC35.imm hs39
        refine WL_storeBox' (vs := [(.int .i64 x25.Kind), (.int .u32 x25.N), (vstr x25.Tag), (.int .i64 x25.Status), (vstr x25.Text), (.int .i64 x25.Items), (.int .u8 ((UInt8.toNat x25.Flags : Nat) : Int)), (.int .u32 x25.UID), (.int .u32 x25.Size), (.slice a37 (List.length x25.Body) c38)]) (cells' := [(.int .i64 x25.Kind), (.int .u32 x25.N), (vstr x25.Tag), (.int .i64 x25.Status), (vstr x25.Text), (.int .i64 x25.Items), (.int .u8 ((UInt8.toNat x25.Flags : Nat) : Int)), (.int .u32 x25.UID), (.int .u32 x25.Size), (.slice a37 (List.length x25.Body) c38)]) hC41 (i := 1) rfl rfl Tryz.sizeOf30 rfl (Nat.le_of_ble_eq_true rfl) rfl rfl rfl (fun w44 hC43 => ?_)
        refine WL_nil ?_
        refine W_seq ?_
        refine W_region ?_
        refine WL_fieldBox' (off' := 0) Tryz.underlying30 rfl Tryz.sizeOf3 rfl (lt' rfl) rfl ?_
        refine WL_loadBox (v := (.int .i64 x25.Kind)) hC43 (i := 1) rfl rfl Tryz.isAgg3 (lt' rfl) rfl ?_
        refine WL_move (v := (.int .i64 p0)) (lt' rfl) rfl ?_
        refine WL_ieql (a := (x25.Kind : Int)) (b := (p0 : Int)) (lt' rfl) rfl rfl ?_
        refine WL_nil ?_
        refine W_cond (t := ((x25.Kind : Int) == (p0 : Int))) rfl (fun h45 => ?_) (fun h45 => ?_)
        · have H := iteT h45 H
          refine W_region ?_
          refine WL_move (v := (.int .i64 x8)) (lt' rfl) rfl ?_
          refine WL_iadd (a := (x8 : Int)) (b := (1 : Int)) (lt' rfl) rfl rfl ?_
          refine WL_assign (v := (.int .i64 (IntKind.wrap .i64 ((x8 : Int) + (1 : Int))))) (lt' rfl) rfl ?_
          refine WL_nil ?_
          exact kj23 () _ _ ⟨(IntKind.wrap .i64 ((x8 : Int) + (1 : Int))), _, _, self_upds ⟨rfl, rfl, rfl, rfl, rfl, trivial⟩, hC43.pick [3, 4] (by decide) rfl, H⟩
        · have H := iteF h45 H
          refine W_skip ?_
          exact kj23 () _ _ ⟨x8, _, _, self_upds ⟨rfl, rfl, rfl, rfl, rfl, trivial⟩, hC43.pick [3, 4] (by decide) rfl, H⟩
      · rintro - - w22 ⟨x19, ρ0, O21, rfl, hC20, H⟩
        refine W_region ?_
        refine WL_iadd (a := (x10 : Int)) (b := (1 : Int)) (lt' rfl) rfl rfl ?_
        refine WL_move (v := (.int .i64 (IntKind.wrap .i64 ((x10 : Int) + (1 : Int))))) (lt' rfl) rfl ?_
        refine WL_nil ?_
        exact ih16 (x19, x9, (IntKind.wrap .i64 ((x10 : Int) + (1 : Int)))) _ _ H ⟨_, _, self_upds ⟨rfl, rfl, rfl, rfl, rfl, trivial⟩, hC20.pick [0, 1] (by decide) rfl⟩
    · have H := iteF h18 H
      refine W_exit ?_
      exact kj6 () _ _ ⟨x8, _, _, self_upds ⟨rfl, trivial⟩, hC11.pick [0] (by decide) rfl, H⟩
  · rintro - - w5 ⟨x2, ρ0, O4, rfl, hC3, H⟩
    refine W_seq ?_
    refine W_region ?_
    refine WL_move (v := (.int .i64 x2)) (lt' rfl) rfl ?_
    refine WL_assign (v := (.int .i64 x2)) (lt' rfl) rfl ?_
    refine WL_nil ?_
    refine W_ret ?_
    obtain rfl := Option.some.inj H
    exact Exists.intro () (And.intro rfl (And.intro hC3.keep trivial))

-- cubbyhole/cubbyholelaw10.ReplyCounts
def F3_j5 (N : Nat) (x85 : Bool) : Option Bool :=
  some x85
def F3_j2 (N : Nat) (x13 : Int) (x34 : Int) : Option Bool :=
  Option.bind (F7 N ) fun y91 => (if y91 = true then F3_j5 N   ((x13 : Int) == (x34 : Int)) else F3_j5 N   false)
def F3_j3 (N : Nat) (x13 : Int) (p0 : List ApiResponse) (x41 : Int) (x42 : Int) (kc0 : (Int × Int × Int) → Option Bool) (x51 : Int) : Option Bool :=
  kc0 (x51, x41, (IntKind.wrap .i64 ((x42 : Int) + (1 : Int))))
def F3_j4 (N : Nat) (x13 : Int) (x40 : Int) (p0 : List ApiResponse) (x41 : Int) (x42 : Int) (kc0 : (Int × Int × Int) → Option Bool) (x77 : Bool) : Option Bool :=
  (if x77 = true then F3_j3 N x13 p0 x41 x42 kc0 (IntKind.wrap .i64 ((x40 : Int) + (1 : Int))) else F3_j3 N x13 p0 x41 x42 kc0 x40)
def F3_l2 (N : Nat) (x13 : Int) (p0 : List ApiResponse) : Nat → (Int × Int × Int) → Option Bool
  | 0, _ => none
  | m46 + 1, (x40, x41, x42) =>
    (if (decide ((x42 : Int) < (x41 : Int))) = true then Option.bind (sget p0 x42) fun x57 => (if (decide ((1 : Int) ≤ (x57.Kind : Int))) = true then F3_j4 N x13 x40 p0 x41 x42 (F3_l2 N x13 p0  m46) (decide ((x57.Kind : Int) ≤ (10 : Int))) else F3_j4 N x13 x40 p0 x41 x42 (F3_l2 N x13 p0  m46) false) else F3_j2 N x13  x40)
def F3_j1 (N : Nat) (p0 : List ApiResponse) (x13 : Int) : Option Bool :=
  F3_l2 N x13 p0  N (0, (p0.length : Int), 0)
def F3_l1 (N : Nat) (p0 : List ApiResponse) : Nat → (Int × Int) → Option Bool
  | 0, _ => none
  | m24 + 1, (x19, x20) =>
    (if (decide ((x20 : Int) ≤ (10 : Int))) = true then Option.bind (F8 N x20 p0) fun y29 => (F3_l1 N p0  m24) ((IntKind.wrap .i64 ((x19 : Int) + (y29 : Int))), (IntKind.wrap .i64 ((x20 : Int) + (1 : Int)))) else F3_j1 N p0  x19)
def F3 (N : Nat) (p0 : List ApiResponse) : Option Bool :=
  Option.bind (F6 N p0) fun y2 => (if (!y2) = true then Option.bind (F7 N ) fun y8 => some y8 else F3_l1 N p0  N (0, 1))
set_option maxRecDepth 100000 in
set_option maxHeartbeats 4000000 in
theorem f3_ok (N : Nat) {O0 : List Nat} {w0 : World} (hO : ∀ b, b ∈ O0 → b < w0.heap.size) (hG : rGlob.rel O0 w0 [] ()) (pa0 : Option Addr) (pc0 : Nat) (p0 : List ApiResponse) (ph0 : Rp.rel (Rp.sl rApiResponse) O0 w0 [.slice pa0 (List.length p0) pc0] p0) (y : Bool) (H : F3 N p0 = some y) :
    Calls Tryz.prog 3 (List.toArray [(.slice pa0 (List.length p0) pc0)]) w0 fun e w => ∃ z : Unit, e = .returned (.bool y) ∧ Keep [] w0 w ∧ True := by
  have hNK : ∀ b : Nat, b ∈ ([] : List Nat) → False := by intro b h; cases h
  have hC := (((Ctx.start hO).imm hG).imm ph0)
  refine calls_of_W (ts := [2]) Tryz.func3 rfl rfl Tryz.ntmps3 (Nat.le_of_ble_eq_true rfl) ?_
  refine W_seq ?_
  refine W_region ?_
  refine WL_assign (v := (.bool false)) (lt' rfl) rfl ?_
  refine WL_nil ?_
  refine W_seq ?_
  refine W_seq ?_
  refine W_region ?_
  refine WL_move (v := (.slice pa0 (List.length p0) pc0)) (lt' rfl) rfl ?_
  obtain ⟨y2, h3, H⟩ := bindE H
  refine WL_call (cap := []) en6 (lt' rfl) rfl rfl (f6_ok N hC.lt (hC.immAt (i := 1) rfl) pa0 pc0 p0 (hC.immAt (i := 0) rfl) y2 h3) ?_
  rintro _ w4 ⟨hk5, -⟩
  have hC6 := hC.call hk5
  refine WL_not (lt' rfl) rfl ?_
  refine WL_nil ?_
  refine W_cond (t := (!y2)) rfl (fun h7 => ?_) (fun h7 => ?_)
  · have H := iteT h7 H
    refine W_seq ?_
    refine W_region ?_
    obtain ⟨y8, h9, H⟩ := bindE H
    refine WL_call (cap := []) en7 (lt' rfl) rfl rfl (f7_ok N hC6.lt (hC6.immAt (i := 1) rfl)  y8 h9) ?_
    rintro _ w10 ⟨hk11, -⟩
    have hC12 := hC6.call hk11
    refine WL_assign (v := (.bool y8)) (lt' rfl) rfl ?_
    refine WL_nil ?_
    refine W_ret ?_
    obtain rfl := Option.some.inj H
    exact Exists.intro () (And.intro rfl (And.intro hC12.keep trivial))
  · have H := iteF h7 H
    refine W_skip ?_
    refine W_seq ?_
    refine W_region ?_
    refine WL_assign (v := (.int .i64 0)) (lt' rfl) rfl ?_
    refine WL_assign (v := (.int .i64 0)) (lt' rfl) rfl ?_
    refine WL_nil ?_
    refine W_joinS Unit (fun (_ : Unit) (ρ : Env) (w : World) => ∃ (x13 : Int) (ρ0 : Env) (O : List Nat), ρ = upds ρ0 [(0, (.slice pa0 (List.length p0) pc0)), (3, (.int .i64 x13)), (4, (.int .i64 0))] ∧ Ctx O0 [] w0 O w [.imm rGlob [] (), .imm (Rp.sl rApiResponse) [.slice pa0 (List.length p0) pc0] p0] ∧ F3_j1 N p0  x13 = some y) (fun K18 kj17 => ?_) ?_
    · skip
      refine W_seq ?_
      refine W_region ?_
      refine WL_assign (v := (.int .i64 1)) (lt' rfl) rfl ?_
      refine WL_nil ?_
      refine W_block ?_
      refine W_loop (fun m s => F3_l1 N p0  m s) (fun (s : Int × Int) (ρ : Env) (w : World) => ∃ (ρ0 : Env) (O : List Nat), ρ = upds ρ0 [(0, (.slice pa0 (List.length p0) pc0)), (3, (.int .i64 s.1)), (4, (.int .i64 0)), (5, (.int .i64 s.2))] ∧ Ctx O0 [] w0 O w [.imm rGlob [] (), .imm (Rp.sl rApiResponse) [.slice pa0 (List.length p0) pc0] p0]) N (0, 1) y (fun _ => rfl) H ⟨_, _, self_upds ⟨rfl, rfl, rfl, rfl, trivial⟩, hC6.pick [1, 0] (by decide) rfl⟩ ?_
      clear H
      rintro K25 m24 ⟨x19, x20⟩ - w23 ih26 H ⟨ρ0, O22, rfl, hC21⟩
      refine W_seq ?_
      refine W_seq ?_
      refine W_region ?_
      refine WL_move (v := (.int .i64 x20)) (lt' rfl) rfl ?_
      refine WL_ileq (a := (x20 : Int)) (b := (10 : Int)) (lt' rfl) rfl rfl ?_
      refine WL_nil ?_
      refine W_cond (t := (decide ((x20 : Int) ≤ (10 : Int)))) rfl (fun h28 => ?_) (fun h28 => ?_)
      · have H := iteT h28 H
        refine W_skip ?_
        refine W_seq ?_
        refine W_block ?_
        refine W_region ?_
        refine WL_move (v := (.int .i64 x19)) (lt' rfl) rfl ?_
        refine WL_move (v := (.int .i64 x20)) (lt' rfl) rfl ?_
        refine WL_move (v := (.slice pa0 (List.length p0) pc0)) (lt' rfl) rfl ?_
        obtain ⟨y29, h30, H⟩ := bindE H
        refine WL_call (cap := []) en8 (lt' rfl) rfl rfl (f8_ok N hC21.lt (hC21.immAt (i := 0) rfl) x20 pa0 pc0 p0 (hC21.immAt (i := 1) rfl) y29 h30) ?_
        rintro _ w31 ⟨hk32, -⟩
        have hC33 := hC21.call hk32
        refine WL_iadd (a := (x19 : Int)) (b := (y29 : Int)) (lt' rfl) rfl rfl ?_
        refine WL_assign (v := (.int .i64 (IntKind.wrap .i64 ((x19 : Int) + (y29 : Int))))) (lt' rfl) rfl ?_
        refine WL_nil ?_
        refine W_region ?_
        refine WL_move (v := (.int .i64 x20)) (lt' rfl) rfl ?_
        refine WL_iadd (a := (x20 : Int)) (b := (1 : Int)) (lt' rfl) rfl rfl ?_
        refine WL_assign (v := (.int .i64 (IntKind.wrap .i64 ((x20 : Int) + (1 : Int))))) (lt' rfl) rfl ?_
        refine WL_nil ?_
        exact ih26 ((IntKind.wrap .i64 ((x19 : Int) + (y29 : Int))), (IntKind.wrap .i64 ((x20 : Int) + (1 : Int)))) _ _ H ⟨_, _, self_upds ⟨rfl, rfl, rfl, rfl, trivial⟩, hC33.pick [0, 1] (by decide) rfl⟩
      · have H := iteF h28 H
        refine W_exit ?_
        exact kj17 () _ _ ⟨x19, _, _, self_upds ⟨rfl, rfl, rfl, trivial⟩, hC21.pick [0, 1] (by decide) rfl, H⟩
    · rintro - - w16 ⟨x13, ρ0, O15, rfl, hC14, H⟩
      refine W_joinS Unit (fun (_ : Unit) (ρ : Env) (w : World) => ∃ (x34 : Int) (ρ0 : Env) (O : List Nat), ρ = upds ρ0 [(3, (.int .i64 x13)), (4, (.int .i64 x34))] ∧ Ctx O0 [] w0 O w [.imm rGlob [] ()] ∧ F3_j2 N x13  x34 = some y) (fun K39 kj38 => ?_) ?_
      · skip
        refine W_seq ?_
        refine W_region ?_
        refine WL_move (v := (.slice pa0 (List.length p0) pc0)) (lt' rfl) rfl ?_
        refine WL_llen Tryz.underlying22 (lt' rfl) rfl ?_
        refine WL_move (v := (.int .i64 0)) (lt' rfl) rfl ?_
        refine WL_nil ?_
        refine W_block ?_
        refine W_loop (fun m s => F3_l2 N x13 p0  m s) (fun (s : Int × Int × Int) (ρ : Env) (w : World) => ∃ (ρ0 : Env) (O : List Nat), ρ = upds ρ0 [(3, (.int .i64 x13)), (4, (.int .i64 s.1)), (21, (.slice pa0 (List.length p0) pc0)), (22, (.int .i64 s.2.1)), (23, (.int .i64 s.2.2))] ∧ Ctx O0 [] w0 O w [.imm rGlob [] (), .imm (Rp.sl rApiResponse) [.slice pa0 (List.length p0) pc0] p0]) N (0, (p0.length : Int), 0) y (fun _ => rfl) H ⟨_, _, self_upds ⟨rfl, rfl, rfl, rfl, rfl, trivial⟩, hC14.pick [0, 1] (by decide) rfl⟩ ?_
        clear H
        rintro K47 m46 ⟨x40, x41, x42⟩ - w45 ih48 H ⟨ρ0, O44, rfl, hC43⟩
        refine W_seq ?_
        refine W_region ?_
        refine WL_ilss (a := (x42 : Int)) (b := (x41 : Int)) (lt' rfl) rfl rfl ?_
        refine WL_nil ?_
        refine W_seq ?_
        refine W_cond (t := (decide ((x42 : Int) < (x41 : Int)))) rfl (fun h50 => ?_) (fun h50 => ?_)
        · have H := iteT h50 H
          refine W_skip ?_
          refine W_joinS Unit (fun (_ : Unit) (ρ : Env) (w : World) => ∃ (x51 : Int) (ρ0 : Env) (O : List Nat), ρ = upds ρ0 [(3, (.int .i64 x13)), (4, (.int .i64 x51)), (21, (.slice pa0 (List.length p0) pc0)), (22, (.int .i64 x41)), (23, (.int .i64 x42))] ∧ Ctx O0 [] w0 O w [.imm rGlob [] (), .imm (Rp.sl rApiResponse) [.slice pa0 (List.length p0) pc0] p0] ∧ F3_j3 N x13 p0 x41 x42 (F3_l2 N x13 p0  m46) x51 = some y) (fun K56 kj55 => ?_) ?_
          · skip
            refine W_block ?_
            refine W_seq ?_
            refine W_region ?_
            obtain ⟨x57, h58, H⟩ := bindE H
            refine WL_indexAddr (r := rApiResponse) (k := .i64) (i := x42) (l := p0) (xx := x57) (hC43.immAt (i := 1) rfl) h58 Tryz.underlying22 Tryz.sizeOf30 (lt' rfl) rfl rfl (fun ad59 hE60 => ?_)
            refine WL_loadA hE60 Tryz.isAgg30 Tryz.sizeOf30 (lt' rfl) rfl (fun cs61 hv62 => ?_)
            have hC63 := hC43.imm hv62
            refine WL_alloc (cells := [(.int .i64 0), (.int .u32 0), (vstr ([] : List UInt8)), (.int .i64 0), (vstr ([] : List UInt8)), (.int .i64 0), (.int .u8 ((UInt8.toNat 0 : Nat) : Int)), (.int .u32 0), (.int .u32 0), (.slice none (List.length ([] : List UInt8)) 0)]) hC63 Tryz.zeroValue30 rfl (lt' rfl) (fun b65 w66 hC67 => ?_)
            have hx72 := hC67.immAt (i := 1) rfl
            obtain ⟨a69, c70, rfl, hs71⟩ := rApiResponse_shape hx72
            have hC73 := hC67.imm hs71
            refine WL_storeBox' (vs := [(.int .i64 x57.Kind), (.int .u32 x57.N), (vstr x57.Tag), (.int .i64 x57.Status), (vstr x57.Text), (.int .i64 x57.Items), (.int .u8 ((UInt8.toNat x57.Flags : Nat) : Int)), (.int .u32 x57.UID), (.int .u32 x57.Size), (.slice a69 (List.length x57.Body) c70)]) (cells' := [(.int .i64 x57.Kind), (.int .u32 x57.N), (vstr x57.Tag), (.int .i64 x57.Status), (vstr x57.Text), (.int .i64 x57.Items), (.int .u8 ((UInt8.toNat x57.Flags : Nat) : Int)), (.int .u32 x57.UID), (.int .u32 x57.Size), (.slice a69 (List.length x57.Body) c70)]) hC73 (i := 1) rfl rfl Tryz.sizeOf30 rfl (Nat.le_of_ble_eq_true rfl) rfl rfl rfl (fun w76 hC75 => ?_)
            refine WL_nil ?_
            refine W_joinS Unit (fun (_ : Unit) (ρ : Env) (w : World) => ∃ (x77 : Bool) (ρ0 : Env) (O : List Nat), ρ = upds ρ0 [(3, (.int .i64 x13)), (4, (.int .i64 x40)), (21, (.slice pa0 (List.length p0) pc0)), (22, (.int .i64 x41)), (23, (.int .i64 x42)), (34, (.bool x77))] ∧ Ctx O0 [] w0 O w [.imm rGlob [] (), .imm (Rp.sl rApiResponse) [.slice pa0 (List.length p0) pc0] p0] ∧ F3_j4 N x13 x40 p0 x41 x42 (F3_l2 N x13 p0  m46) x77 = some y) (fun K82 kj81 => ?_) ?_
            · skip
              refine W_region ?_
              refine WL_fieldBox' (off' := 0) Tryz.underlying30 rfl Tryz.sizeOf3 rfl (lt' rfl) rfl ?_
              refine WL_loadBox (v := (.int .i64 x57.Kind)) hC75 (i := 1) rfl rfl Tryz.isAgg3 (lt' rfl) rfl ?_
              refine WL_igeq (a := (x57.Kind : Int)) (b := (1 : Int)) (lt' rfl) rfl rfl ?_
              refine WL_move (v := (.bool (decide ((1 : Int) ≤ (x57.Kind : Int))))) (lt' rfl) rfl ?_
              rcases Bool.eq_false_or_eq_true (decide ((1 : Int) ≤ (x57.Kind : Int))) with h83 | h83
              · have H := iteT h83 H
                refine WL_yes rfl rfl rfl h83 ?_
                refine WL_fieldBox' (off' := 0) Tryz.underlying30 rfl Tryz.sizeOf3 rfl (lt' rfl) rfl ?_
                refine WL_yes rfl rfl rfl h83 ?_
                refine WL_loadBox (v := (.int .i64 x57.Kind)) hC75 (i := 1) rfl rfl Tryz.isAgg3 (lt' rfl) rfl ?_
                refine WL_yes rfl rfl rfl h83 ?_
                refine WL_ileq (a := (x57.Kind : Int)) (b := (10 : Int)) (lt' rfl) rfl rfl ?_
                refine WL_pickT (v := (.bool (decide ((x57.Kind : Int) ≤ (10 : Int))))) (lt' rfl) (by show Value.bool _ = _; rw [h83]) rfl ?_
                refine WL_nil ?_
                exact kj81 () _ _ ⟨(decide ((x57.Kind : Int) ≤ (10 : Int))), _, _, self_upds ⟨rfl, rfl, rfl, rfl, rfl, rfl, trivial⟩, hC75.pick [3, 4] (by decide) rfl, H⟩
              · have H := iteF h83 H
                refine WL_no rfl rfl rfl (by rw [h83]; rfl) (lt' rfl) ?_
                refine WL_no rfl rfl rfl (by rw [h83]; rfl) (lt' rfl) ?_
                refine WL_no rfl rfl rfl (by rw [h83]; rfl) (lt' rfl) ?_
                refine WL_pickF (v := (.bool false)) (lt' rfl) (by show Value.bool _ = _; rw [h83]) rfl ?_
                refine WL_nil ?_
                exact kj81 () _ _ ⟨false, _, _, self_upds ⟨rfl, rfl, rfl, rfl, rfl, rfl, trivial⟩, hC75.pick [3, 4] (by decide) rfl, H⟩
            · rintro - - w80 ⟨x77, ρ0, O79, rfl, hC78, H⟩
              refine W_cond (t := x77) rfl (fun h84 => ?_) (fun h84 => ?_)
              · have H := iteT h84 H
                refine W_region ?_
                refine WL_move (v := (.int .i64 x40)) (lt' rfl) rfl ?_
                refine WL_iadd (a := (x40 : Int)) (b := (1 : Int)) (lt' rfl) rfl rfl ?_
                refine WL_assign (v := (.int .i64 (IntKind.wrap .i64 ((x40 : Int) + (1 : Int))))) (lt' rfl) rfl ?_
                refine WL_nil ?_
                exact kj55 () _ _ ⟨(IntKind.wrap .i64 ((x40 : Int) + (1 : Int))), _, _, self_upds ⟨rfl, rfl, rfl, rfl, rfl, trivial⟩, hC78.pick [0, 1] (by decide) rfl, H⟩
              · have H := iteF h84 H
                refine W_skip ?_
                exact kj55 () _ _ ⟨x40, _, _, self_upds ⟨rfl, rfl, rfl, rfl, rfl, trivial⟩, hC78.pick [0, 1] (by decide) rfl, H⟩
          · rintro - - w54 ⟨x51, ρ0, O53, rfl, hC52, H⟩
            refine W_region ?_
            refine WL_iadd (a := (x42 : Int)) (b := (1 : Int)) (lt' rfl) rfl rfl ?_
            refine WL_move (v := (.int .i64 (IntKind.wrap .i64 ((x42 : Int) + (1 : Int))))) (lt' rfl) rfl ?_
            refine WL_nil ?_
            exact ih48 (x51, x41, (IntKind.wrap .i64 ((x42 : Int) + (1 : Int)))) _ _ H ⟨_, _, self_upds ⟨rfl, rfl, rfl, rfl, rfl, trivial⟩, hC52.pick [0, 1] (by decide) rfl⟩
        · have H := iteF h50 H
          refine W_exit ?_
          exact kj38 () _ _ ⟨x40, _, _, self_upds ⟨rfl, rfl, trivial⟩, hC43.pick [0] (by decide) rfl, H⟩
      · rintro - - w37 ⟨x34, ρ0, O36, rfl, hC35, H⟩
        refine W_joinS Unit (fun (_ : Unit) (ρ : Env) (w : World) => ∃ (x85 : Bool) (ρ0 : Env) (O : List Nat), ρ = upds ρ0 [(2, (.bool x85))] ∧ Ctx O0 [] w0 O w [.imm rGlob [] ()] ∧ F3_j5 N   x85 = some y) (fun K90 kj89 => ?_) ?_
        · skip
          refine W_region ?_
          obtain ⟨y91, h92, H⟩ := bindE H
          refine WL_call (cap := []) en7 (lt' rfl) rfl rfl (f7_ok N hC35.lt (hC35.immAt (i := 0) rfl)  y91 h92) ?_
          rintro _ w93 ⟨hk94, -⟩
          have hC95 := hC35.call hk94
          refine WL_move (v := (.bool y91)) (lt' rfl) rfl ?_
          rcases Bool.eq_false_or_eq_true y91 with h96 | h96
          · have H := iteT h96 H
            refine WL_yes rfl rfl rfl h96 ?_
            refine WL_move (v := (.int .i64 x13)) (lt' rfl) rfl ?_
            refine WL_yes rfl rfl rfl h96 ?_
            refine WL_move (v := (.int .i64 x34)) (lt' rfl) rfl ?_
            refine WL_yes rfl rfl rfl h96 ?_
            refine WL_ieql (a := (x13 : Int)) (b := (x34 : Int)) (lt' rfl) rfl rfl ?_
            refine WL_pickT (v := (.bool ((x13 : Int) == (x34 : Int)))) (lt' rfl) (by show Value.bool _ = _; rw [h96]) rfl ?_
            refine WL_assign (v := (.bool ((x13 : Int) == (x34 : Int)))) (lt' rfl) rfl ?_
            refine WL_nil ?_
            exact kj89 () _ _ ⟨((x13 : Int) == (x34 : Int)), _, _, self_upds ⟨rfl, trivial⟩, hC95.pick [0] (by decide) rfl, H⟩
          · have H := iteF h96 H
            refine WL_no rfl rfl rfl (by rw [h96]; rfl) (lt' rfl) ?_
            refine WL_no rfl rfl rfl (by rw [h96]; rfl) (lt' rfl) ?_
            refine WL_no rfl rfl rfl (by rw [h96]; rfl) (lt' rfl) ?_
            refine WL_pickF (v := (.bool false)) (lt' rfl) (by show Value.bool _ = _; rw [h96]) rfl ?_
            refine WL_assign (v := (.bool false)) (lt' rfl) rfl ?_
            refine WL_nil ?_
            exact kj89 () _ _ ⟨false, _, _, self_upds ⟨rfl, trivial⟩, hC95.pick [0] (by decide) rfl, H⟩
        · rintro - - w88 ⟨x85, ρ0, O87, rfl, hC86, H⟩
          refine W_ret ?_
          obtain rfl := Option.some.inj H
          exact Exists.intro () (And.intro rfl (And.intro hC86.keep trivial))

end Go.Proofs.YtbdmcannoljafaaGreatDoor
