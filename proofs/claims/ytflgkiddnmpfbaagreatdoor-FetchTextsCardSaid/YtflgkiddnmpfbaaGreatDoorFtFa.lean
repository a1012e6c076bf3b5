/- The functions of the law: their models, and that the program does what they say. -/
import Derived.Test.YtflgkiddnmpfbaaGreatDoorGxR
import Derived.Test.YtflgkiddnmpfbaaGreatDoorFtAl
set_option linter.unusedVariables false
set_option linter.unusedSimpArgs false
namespace Go.Proofs.YtflgkiddnmpfbaaGreatDoor
open Go Go.Gx Go.Mx
structure ApiRange where
  Lo : Int
  Hi : Int
  deriving DecidableEq
def rApiRange : Rp ApiRange := Rp.via (Rp.pair (rInt .u32) (rInt .u32)) fun x => (x.Lo, x.Hi)
theorem rApiRange_Lo : SubAt rApiRange 0 (rInt .u32) (fun x => x.Lo) := sub_via (sub_fst _ _)
theorem rApiRange_Hi : SubAt rApiRange 1 (rInt .u32) (fun x => x.Hi) := sub_via (sub_snd _ (sub_all _))
theorem rApiRange_shape {O : List Nat} {w : World} {cs : List Value} {x : ApiRange} (h : rApiRange.rel O w cs x) : cs = [.int .u32 x.Lo, .int .u32 x.Hi] := by
  obtain ⟨k0, m0, rfl, g0, t0⟩ := h
  have g1 := t0
  obtain rfl : _ = [_] := g0
  obtain rfl : _ = [_] := g1
  exact rfl
theorem rApiRange_mk (O : List Nat) (w : World) {x : ApiRange} : rApiRange.rel O w [.int .u32 x.Lo, .int .u32 x.Hi] x := ⟨_, _, rfl, rfl, rfl⟩

theorem en36 : Enters Tryz.prog 36 := Enters.mk Tryz.func36 (by kernel_rfl) (by kernel_rfl)
theorem en37 : Enters Tryz.prog 37 := Enters.mk Tryz.func37 (by kernel_rfl) (by kernel_rfl)
theorem en38 : Enters Tryz.prog 38 := Enters.mk Tryz.func38 (by kernel_rfl) (by kernel_rfl)
theorem en39 : Enters Tryz.prog 39 := Enters.mk Tryz.func39 (by kernel_rfl) (by kernel_rfl)
theorem en40 : Enters Tryz.prog 40 := Enters.mk Tryz.func40 (by kernel_rfl) (by kernel_rfl)
def F_law19_alive (N : Nat) : Option Bool := some true
theorem f36_ok (N : Nat) {O0 : List Nat} {w0 : World} (hO : ∀ b, b ∈ O0 → b < w0.heap.size) (hG : rGlob.rel O0 w0 [] ()) (y : Bool) (H : F_law19_alive N = some y) :
    Calls Tryz.prog 36 (List.toArray []) w0 fun e w => ∃ z : Unit, e = .returned (.bool y) ∧ Keep [] w0 w ∧ True := by
  cases H
  obtain ⟨_, W0, ⟨hgl, Gg, hL, hc⟩, h1, h2⟩ := hG
  exact (closed_keep hmo hng (hok_ext tab xfn) hL h1 (fun b hb => (h2 b hb).2) (retIs_spec (hc.a36))).mono fun e w h => ⟨(), h.1, h.2, trivial⟩
-- cubbyhole/fetch.Status
def F_fetch_Status_j1 (N : Nat) : Option Int :=
  some 2
def F_fetch_Status_j2 (N : Nat) (x7 : Bool) : Option Int :=
  (if x7 = true then some 1 else F_fetch_Status_j1 N   )
def F_fetch_Status (N : Nat) (p0 : Int) : Option Int :=
  (if ((p0 : Int) == (0 : Int)) = true then some 0 else (if ((p0 : Int) == (7 : Int)) = true then F_fetch_Status_j2 N   ((p0 : Int) == (7 : Int)) else (if ((p0 : Int) == (5 : Int)) = true then F_fetch_Status_j2 N   ((p0 : Int) == (5 : Int)) else F_fetch_Status_j2 N   ((p0 : Int) == (6 : Int)))))
set_option maxRecDepth 100000 in
set_option maxHeartbeats 4000000 in
theorem f37_ok (N : Nat) {O0 : List Nat} {w0 : World} (hO : ∀ b, b ∈ O0 → b < w0.heap.size) (hG : rGlob.rel O0 w0 [] ()) (p0 : Int) (y : Int) (H : F_fetch_Status N p0 = some y) :
    Calls Tryz.prog 37 (List.toArray [(.int .i64 p0)]) w0 fun e w => ∃ z : Unit, e = .returned (.int .i64 y) ∧ Keep [] w0 w ∧ True := by
  have hNK : ∀ b : Nat, b ∈ ([] : List Nat) → False := by intro b h; cases h
  have hC := ((Ctx.start hO).imm hG)
  refine calls_of_W (ts := [2]) Tryz.func37 rfl rfl Tryz.ntmps37 (Nat.le_of_ble_eq_true rfl) ?_
  refine W_seq ?_
  refine W_region ?_
  refine WL_assign (v := (.int .i64 0)) (lt' rfl) rfl ?_
  refine WL_nil ?_
  refine W_joinS Unit (fun (_ : Unit) (ρ : Env) (w : World) => ∃ (ρ0 : Env) (O : List Nat), ρ = upds ρ0 [] ∧ Ctx O0 [] w0 O w [.imm rGlob [] ()] ∧ F_fetch_Status_j1 N    = some y) (fun K5 kj4 => ?_) ?_
  · skip
    refine W_seq ?_
    refine W_region ?_
    refine WL_move (v := (.int .i64 p0)) (lt' rfl) rfl ?_
    refine WL_nil ?_
    refine W_block ?_
    refine W_seq ?_
    refine W_region ?_
    refine WL_ieql (a := (p0 : Int)) (b := (0 : Int)) (lt' rfl) rfl rfl ?_
    refine WL_assign (v := (.bool ((p0 : Int) == (0 : Int)))) (lt' rfl) rfl ?_
    refine WL_nil ?_
    refine W_cond (t := ((p0 : Int) == (0 : Int))) rfl (fun h6 => ?_) (fun h6 => ?_)
    · have H := iteT h6 H
      refine W_seq ?_
      refine W_region ?_
      refine WL_assign (v := (.int .i64 0)) (lt' rfl) rfl ?_
      refine WL_nil ?_
      refine W_ret ?_
      obtain rfl := Option.some.inj H
      exact Exists.intro () (And.intro rfl (And.intro hC.keep trivial))
    · have H := iteF h6 H
      refine W_joinS Unit (fun (_ : Unit) (ρ : Env) (w : World) => ∃ (x7 : Bool) (ρ0 : Env) (O : List Nat), ρ = upds ρ0 [(6, (.bool x7))] ∧ Ctx O0 [] w0 O w [.imm rGlob [] ()] ∧ F_fetch_Status_j2 N   x7 = some y) (fun K12 kj11 => ?_) ?_
      · skip
        refine W_seq ?_
        refine W_region ?_
        refine WL_ieql (a := (p0 : Int)) (b := (7 : Int)) (lt' rfl) rfl rfl ?_
        refine WL_assign (v := (.bool ((p0 : Int) == (7 : Int)))) (lt' rfl) rfl ?_
        refine WL_nil ?_
        refine W_cond (t := ((p0 : Int) == (7 : Int))) rfl (fun h13 => ?_) (fun h13 => ?_)
        · have H := iteT h13 H
          refine W_skip ?_
          exact kj11 () _ _ ⟨((p0 : Int) == (7 : Int)), _, _, self_upds ⟨rfl, trivial⟩, hC.pick [0] (by decide) rfl, H⟩
        · have H := iteF h13 H
          refine W_seq ?_
          refine W_region ?_
          refine WL_ieql (a := (p0 : Int)) (b := (5 : Int)) (lt' rfl) rfl rfl ?_
          refine WL_assign (v := (.bool ((p0 : Int) == (5 : Int)))) (lt' rfl) rfl ?_
          refine WL_nil ?_
          refine W_cond (t := ((p0 : Int) == (5 : Int))) rfl (fun h14 => ?_) (fun h14 => ?_)
          · have H := iteT h14 H
            refine W_skip ?_
            exact kj11 () _ _ ⟨((p0 : Int) == (5 : Int)), _, _, self_upds ⟨rfl, trivial⟩, hC.pick [0] (by decide) rfl, H⟩
          · have H := iteF h14 H
            refine W_region ?_
            refine WL_ieql (a := (p0 : Int)) (b := (6 : Int)) (lt' rfl) rfl rfl ?_
            refine WL_assign (v := (.bool ((p0 : Int) == (6 : Int)))) (lt' rfl) rfl ?_
            refine WL_nil ?_
            exact kj11 () _ _ ⟨((p0 : Int) == (6 : Int)), _, _, self_upds ⟨rfl, trivial⟩, hC.pick [0] (by decide) rfl, H⟩
      · rintro - - w10 ⟨x7, ρ0, O9, rfl, hC8, H⟩
        refine W_cond (t := x7) rfl (fun h15 => ?_) (fun h15 => ?_)
        · have H := iteT h15 H
          refine W_seq ?_
          refine W_region ?_
          refine WL_assign (v := (.int .i64 1)) (lt' rfl) rfl ?_
          refine WL_nil ?_
          refine W_ret ?_
          obtain rfl := Option.some.inj H
          exact Exists.intro () (And.intro rfl (And.intro hC8.keep trivial))
        · have H := iteF h15 H
          refine W_skip ?_
          exact kj4 () _ _ ⟨_, _, self_upds trivial, hC8.pick [0] (by decide) rfl, H⟩
  · rintro - - w3 ⟨ρ0, O2, rfl, hC1, H⟩
    refine W_seq ?_
    refine W_region ?_
    refine WL_assign (v := (.int .i64 2)) (lt' rfl) rfl ?_
    refine WL_nil ?_
    refine W_ret ?_
    obtain rfl := Option.some.inj H
    exact Exists.intro () (And.intro rfl (And.intro hC1.keep trivial))

-- cubbyhole/cubbyholeref19.Status
def F_ref19_Status_j1 (N : Nat) : Option Int :=
  some 2
def F_ref19_Status_j2 (N : Nat) (x7 : Bool) : Option Int :=
  (if x7 = true then some 1 else F_ref19_Status_j1 N   )
def F_ref19_Status (N : Nat) (p0 : Int) : Option Int :=
  (if ((p0 : Int) == (0 : Int)) = true then some 0 else (if ((p0 : Int) == (5 : Int)) = true then F_ref19_Status_j2 N   ((p0 : Int) == (5 : Int)) else (if ((p0 : Int) == (6 : Int)) = true then F_ref19_Status_j2 N   ((p0 : Int) == (6 : Int)) else F_ref19_Status_j2 N   ((p0 : Int) == (7 : Int)))))
set_option maxRecDepth 100000 in
set_option maxHeartbeats 4000000 in
theorem f38_ok (N : Nat) {O0 : List Nat} {w0 : World} (hO : ∀ b, b ∈ O0 → b < w0.heap.size) (hG : rGlob.rel O0 w0 [] ()) (p0 : Int) (y : Int) (H : F_ref19_Status N p0 = some y) :
    Calls Tryz.prog 38 (List.toArray [(.int .i64 p0)]) w0 fun e w => ∃ z : Unit, e = .returned (.int .i64 y) ∧ Keep [] w0 w ∧ True := by
  have hNK : ∀ b : Nat, b ∈ ([] : List Nat) → False := by intro b h; cases h
  have hC := ((Ctx.start hO).imm hG)
  refine calls_of_W (ts := [2]) Tryz.func38 rfl rfl Tryz.ntmps38 (Nat.le_of_ble_eq_true rfl) ?_
  refine W_seq ?_
  refine W_region ?_
  refine WL_assign (v := (.int .i64 0)) (lt' rfl) rfl ?_
  refine WL_nil ?_
  refine W_joinS Unit (fun (_ : Unit) (ρ : Env) (w : World) => ∃ (ρ0 : Env) (O : List Nat), ρ = upds ρ0 [] ∧ Ctx O0 [] w0 O w [.imm rGlob [] ()] ∧ F_ref19_Status_j1 N    = some y) (fun K5 kj4 => ?_) ?_
  · skip
    refine W_seq ?_
    refine W_region ?_
    refine WL_move (v := (.int .i64 p0)) (lt' rfl) rfl ?_
    refine WL_nil ?_
    refine W_block ?_
    refine W_seq ?_
    refine W_region ?_
    refine WL_ieql (a := (p0 : Int)) (b := (0 : Int)) (lt' rfl) rfl rfl ?_
    refine WL_assign (v := (.bool ((p0 : Int) == (0 : Int)))) (lt' rfl) rfl ?_
    refine WL_nil ?_
    refine W_cond (t := ((p0 : Int) == (0 : Int))) rfl (fun h6 => ?_) (fun h6 => ?_)
    · have H := iteT h6 H
      refine W_seq ?_
      refine W_region ?_
      refine WL_assign (v := (.int .i64 0)) (lt' rfl) rfl ?_
      refine WL_nil ?_
      refine W_ret ?_
      obtain rfl := Option.some.inj H
      exact Exists.intro () (And.intro rfl (And.intro hC.keep trivial))
    · have H := iteF h6 H
      refine W_joinS Unit (fun (_ : Unit) (ρ : Env) (w : World) => ∃ (x7 : Bool) (ρ0 : Env) (O : List Nat), ρ = upds ρ0 [(6, (.bool x7))] ∧ Ctx O0 [] w0 O w [.imm rGlob [] ()] ∧ F_ref19_Status_j2 N   x7 = some y) (fun K12 kj11 => ?_) ?_
      · skip
        refine W_seq ?_
        refine W_region ?_
        refine WL_ieql (a := (p0 : Int)) (b := (5 : Int)) (lt' rfl) rfl rfl ?_
        refine WL_assign (v := (.bool ((p0 : Int) == (5 : Int)))) (lt' rfl) rfl ?_
        refine WL_nil ?_
        refine W_cond (t := ((p0 : Int) == (5 : Int))) rfl (fun h13 => ?_) (fun h13 => ?_)
        · have H := iteT h13 H
          refine W_skip ?_
          exact kj11 () _ _ ⟨((p0 : Int) == (5 : Int)), _, _, self_upds ⟨rfl, trivial⟩, hC.pick [0] (by decide) rfl, H⟩
        · have H := iteF h13 H
          refine W_seq ?_
          refine W_region ?_
          refine WL_ieql (a := (p0 : Int)) (b := (6 : Int)) (lt' rfl) rfl rfl ?_
          refine WL_assign (v := (.bool ((p0 : Int) == (6 : Int)))) (lt' rfl) rfl ?_
          refine WL_nil ?_
          refine W_cond (t := ((p0 : Int) == (6 : Int))) rfl (fun h14 => ?_) (fun h14 => ?_)
          · have H := iteT h14 H
            refine W_skip ?_
            exact kj11 () _ _ ⟨((p0 : Int) == (6 : Int)), _, _, self_upds ⟨rfl, trivial⟩, hC.pick [0] (by decide) rfl, H⟩
          · have H := iteF h14 H
            refine W_region ?_
            refine WL_ieql (a := (p0 : Int)) (b := (7 : Int)) (lt' rfl) rfl rfl ?_
            refine WL_assign (v := (.bool ((p0 : Int) == (7 : Int)))) (lt' rfl) rfl ?_
            refine WL_nil ?_
            exact kj11 () _ _ ⟨((p0 : Int) == (7 : Int)), _, _, self_upds ⟨rfl, trivial⟩, hC.pick [0] (by decide) rfl, H⟩
      · rintro - - w10 ⟨x7, ρ0, O9, rfl, hC8, H⟩
        refine W_cond (t := x7) rfl (fun h15 => ?_) (fun h15 => ?_)
        · have H := iteT h15 H
          refine W_seq ?_
          refine W_region ?_
          refine WL_assign (v := (.int .i64 1)) (lt' rfl) rfl ?_
          refine WL_nil ?_
          refine W_ret ?_
          obtain rfl := Option.some.inj H
          exact Exists.intro () (And.intro rfl (And.intro hC8.keep trivial))
        · have H := iteF h15 H
          refine W_skip ?_
          exact kj4 () _ _ ⟨_, _, self_upds trivial, hC8.pick [0] (by decide) rfl, H⟩
  · rintro - - w3 ⟨ρ0, O2, rfl, hC1, H⟩
    refine W_seq ?_
    refine W_region ?_
    refine WL_assign (v := (.int .i64 2)) (lt' rfl) rfl ?_
    refine WL_nil ?_
    refine W_ret ?_
    obtain rfl := Option.some.inj H
    exact Exists.intro () (And.intro rfl (And.intro hC1.keep trivial))

-- cubbyhole/fetch.Text
def F_fetch_Text (N : Nat) (p0 : Int) : Option (List UInt8) :=
  (if ((p0 : Int) == (0 : Int)) = true then some [99, 111, 109, 112, 108, 101, 116, 101, 100] else (if ((p0 : Int) == (7 : Int)) = true then some [91, 69, 88, 80, 85, 78, 71, 69, 73, 83, 83, 85, 69, 68, 93, 32, 115, 111, 109, 101, 32, 109, 101, 115, 115, 97, 103, 101, 115, 32, 97, 114, 101, 32, 103, 111, 110, 101] else (if ((p0 : Int) == (5 : Int)) = true then some [109, 97, 105, 108, 98, 111, 120, 32, 105, 115, 32, 102, 117, 108, 108] else (if ((p0 : Int) == (6 : Int)) = true then some [110, 111, 32, 105, 100, 101, 110, 116, 105, 102, 105, 101, 114, 115, 32, 108, 101, 102, 116] else (if ((p0 : Int) == (3 : Int)) = true then some [110, 111, 32, 115, 117, 99, 104, 32, 109, 101, 115, 115, 97, 103, 101] else some [102, 97, 105, 108, 101, 100])))))
set_option maxRecDepth 100000 in
set_option maxHeartbeats 4000000 in
theorem f39_ok (N : Nat) {O0 : List Nat} {w0 : World} (hO : ∀ b, b ∈ O0 → b < w0.heap.size) (hG : rGlob.rel O0 w0 [] ()) (p0 : Int) (y : List UInt8) (H : F_fetch_Text N p0 = some y) :
    Calls Tryz.prog 39 (List.toArray [(.int .i64 p0)]) w0 fun e w => ∃ z : Unit, e = .returned (vstr y) ∧ Keep [] w0 w ∧ True := by
  have hNK : ∀ b : Nat, b ∈ ([] : List Nat) → False := by intro b h; cases h
  have hC := ((Ctx.start hO).imm hG)
  refine calls_of_W (ts := [2]) Tryz.func39 rfl rfl Tryz.ntmps39 (Nat.le_of_ble_eq_true rfl) ?_
  refine W_seq ?_
  refine W_region ?_
  refine WL_assign (v := (vstr ([] : List UInt8))) (lt' rfl) rfl ?_
  refine WL_nil ?_
  refine W_seq ?_
  refine W_seq ?_
  refine W_region ?_
  refine WL_move (v := (.int .i64 p0)) (lt' rfl) rfl ?_
  refine WL_nil ?_
  refine W_block ?_
  refine W_seq ?_
  refine W_region ?_
  refine WL_ieql (a := (p0 : Int)) (b := (0 : Int)) (lt' rfl) rfl rfl ?_
  refine WL_assign (v := (.bool ((p0 : Int) == (0 : Int)))) (lt' rfl) rfl ?_
  refine WL_nil ?_
  refine W_cond (t := ((p0 : Int) == (0 : Int))) rfl (fun h1 => ?_) (fun h1 => ?_)
  · have H := iteT h1 H
    refine W_seq ?_
    refine W_region ?_
    refine WL_assign (v := (vstr [99, 111, 109, 112, 108, 101, 116, 101, 100])) (lt' rfl) rfl ?_
    refine WL_nil ?_
    refine W_ret ?_
    obtain rfl := Option.some.inj H
    exact Exists.intro () (And.intro rfl (And.intro hC.keep trivial))
  · have H := iteF h1 H
    refine W_seq ?_
    refine W_region ?_
    refine WL_ieql (a := (p0 : Int)) (b := (7 : Int)) (lt' rfl) rfl rfl ?_
    refine WL_assign (v := (.bool ((p0 : Int) == (7 : Int)))) (lt' rfl) rfl ?_
    refine WL_nil ?_
    refine W_cond (t := ((p0 : Int) == (7 : Int))) rfl (fun h2 => ?_) (fun h2 => ?_)
    · have H := iteT h2 H
      refine W_seq ?_
      refine W_region ?_
      refine WL_assign (v := (vstr [91, 69, 88, 80, 85, 78, 71, 69, 73, 83, 83, 85, 69, 68, 93, 32, 115, 111, 109, 101, 32, 109, 101, 115, 115, 97, 103, 101, 115, 32, 97, 114, 101, 32, 103, 111, 110, 101])) (lt' rfl) rfl ?_
      refine WL_nil ?_
      refine W_ret ?_
      obtain rfl := Option.some.inj H
      exact Exists.intro () (And.intro rfl (And.intro hC.keep trivial))
    · have H := iteF h2 H
      refine W_seq ?_
      refine W_region ?_
      refine WL_ieql (a := (p0 : Int)) (b := (5 : Int)) (lt' rfl) rfl rfl ?_
      refine WL_assign (v := (.bool ((p0 : Int) == (5 : Int)))) (lt' rfl) rfl ?_
      refine WL_nil ?_
      refine W_cond (t := ((p0 : Int) == (5 : Int))) rfl (fun h3 => ?_) (fun h3 => ?_)
      · have H := iteT h3 H
        refine W_seq ?_
        refine W_region ?_
        refine WL_assign (v := (vstr [109, 97, 105, 108, 98, 111, 120, 32, 105, 115, 32, 102, 117, 108, 108])) (lt' rfl) rfl ?_
        refine WL_nil ?_
        refine W_ret ?_
        obtain rfl := Option.some.inj H
        exact Exists.intro () (And.intro rfl (And.intro hC.keep trivial))
      · have H := iteF h3 H
        refine W_seq ?_
        refine W_region ?_
        refine WL_ieql (a := (p0 : Int)) (b := (6 : Int)) (lt' rfl) rfl rfl ?_
        refine WL_assign (v := (.bool ((p0 : Int) == (6 : Int)))) (lt' rfl) rfl ?_
        refine WL_nil ?_
        refine W_cond (t := ((p0 : Int) == (6 : Int))) rfl (fun h4 => ?_) (fun h4 => ?_)
        · have H := iteT h4 H
          refine W_seq ?_
          refine W_region ?_
          refine WL_assign (v := (vstr [110, 111, 32, 105, 100, 101, 110, 116, 105, 102, 105, 101, 114, 115, 32, 108, 101, 102, 116])) (lt' rfl) rfl ?_
          refine WL_nil ?_
          refine W_ret ?_
          obtain rfl := Option.some.inj H
          exact Exists.intro () (And.intro rfl (And.intro hC.keep trivial))
        · have H := iteF h4 H
          refine W_seq ?_
          refine W_region ?_
          refine WL_ieql (a := (p0 : Int)) (b := (3 : Int)) (lt' rfl) rfl rfl ?_
          refine WL_assign (v := (.bool ((p0 : Int) == (3 : Int)))) (lt' rfl) rfl ?_
          refine WL_nil ?_
          refine W_cond (t := ((p0 : Int) == (3 : Int))) rfl (fun h5 => ?_) (fun h5 => ?_)
          · have H := iteT h5 H
            refine W_seq ?_
            refine W_region ?_
            refine WL_assign (v := (vstr [110, 111, 32, 115, 117, 99, 104, 32, 109, 101, 115, 115, 97, 103, 101])) (lt' rfl) rfl ?_
            refine WL_nil ?_
            refine W_ret ?_
            obtain rfl := Option.some.inj H
            exact Exists.intro () (And.intro rfl (And.intro hC.keep trivial))
          · have H := iteF h5 H
            refine W_skip ?_
            refine W_seq ?_
            refine W_region ?_
            refine WL_assign (v := (vstr [102, 97, 105, 108, 101, 100])) (lt' rfl) rfl ?_
            refine WL_nil ?_
            refine W_ret ?_
            obtain rfl := Option.some.inj H
            exact Exists.intro () (And.intro rfl (And.intro hC.keep trivial))

-- cubbyhole/cubbyholeref19.Text
def F_ref19_Text (N : Nat) (p0 : Int) : Option (List UInt8) :=
  (if ((p0 : Int) == (0 : Int)) = true then some [99, 111, 109, 112, 108, 101, 116, 101, 100] else (if ((p0 : Int) == (7 : Int)) = true then some [91, 69, 88, 80, 85, 78, 71, 69, 73, 83, 83, 85, 69, 68, 93, 32, 115, 111, 109, 101, 32, 109, 101, 115, 115, 97, 103, 101, 115, 32, 97, 114, 101, 32, 103, 111, 110, 101] else (if ((p0 : Int) == (5 : Int)) = true then some [109, 97, 105, 108, 98, 111, 120, 32, 105, 115, 32, 102, 117, 108, 108] else (if ((p0 : Int) == (6 : Int)) = true then some [110, 111, 32, 105, 100, 101, 110, 116, 105, 102, 105, 101, 114, 115, 32, 108, 101, 102, 116] else (if ((p0 : Int) == (3 : Int)) = true then some [110, 111, 32, 115, 117, 99, 104, 32, 109, 101, 115, 115, 97, 103, 101] else some [102, 97, 105, 108, 101, 100])))))
set_option maxRecDepth 100000 in
set_option maxHeartbeats 4000000 in
theorem f40_ok (N : Nat) {O0 : List Nat} {w0 : World} (hO : ∀ b, b ∈ O0 → b < w0.heap.size) (hG : rGlob.rel O0 w0 [] ()) (p0 : Int) (y : List UInt8) (H : F_ref19_Text N p0 = some y) :
    Calls Tryz.prog 40 (List.toArray [(.int .i64 p0)]) w0 fun e w => ∃ z : Unit, e = .returned (vstr y) ∧ Keep [] w0 w ∧ True := by
  have hNK : ∀ b : Nat, b ∈ ([] : List Nat) → False := by intro b h; cases h
  have hC := ((Ctx.start hO).imm hG)
  refine calls_of_W (ts := [2]) Tryz.func40 rfl rfl Tryz.ntmps40 (Nat.le_of_ble_eq_true rfl) ?_
  refine W_seq ?_
  refine W_region ?_
  refine WL_assign (v := (vstr ([] : List UInt8))) (lt' rfl) rfl ?_
  refine WL_nil ?_
  refine W_seq ?_
  refine W_seq ?_
  refine W_region ?_
  refine WL_move (v := (.int .i64 p0)) (lt' rfl) rfl ?_
  refine WL_nil ?_
  refine W_block ?_
  refine W_seq ?_
  refine W_region ?_
  refine WL_ieql (a := (p0 : Int)) (b := (0 : Int)) (lt' rfl) rfl rfl ?_
  refine WL_assign (v := (.bool ((p0 : Int) == (0 : Int)))) (lt' rfl) rfl ?_
  refine WL_nil ?_
  refine W_cond (t := ((p0 : Int) == (0 : Int))) rfl (fun h1 => ?_) (fun h1 => ?_)
  · have H := iteT h1 H
    refine W_seq ?_
    refine W_region ?_
    refine WL_assign (v := (vstr [99, 111, 109, 112, 108, 101, 116, 101, 100])) (lt' rfl) rfl ?_
    refine WL_nil ?_
    refine W_ret ?_
    obtain rfl := Option.some.inj H
    exact Exists.intro () (And.intro rfl (And.intro hC.keep trivial))
  · have H := iteF h1 H
    refine W_seq ?_
    refine W_region ?_
    refine WL_ieql (a := (p0 : Int)) (b := (7 : Int)) (lt' rfl) rfl rfl ?_
    refine WL_assign (v := (.bool ((p0 : Int) == (7 : Int)))) (lt' rfl) rfl ?_
    refine WL_nil ?_
    refine W_cond (t := ((p0 : Int) == (7 : Int))) rfl (fun h2 => ?_) (fun h2 => ?_)
    · have H := iteT h2 H
      refine W_seq ?_
      refine W_region ?_
      refine WL_assign (v := (vstr [91, 69, 88, 80, 85, 78, 71, 69, 73, 83, 83, 85, 69, 68, 93, 32, 115, 111, 109, 101, 32, 109, 101, 115, 115, 97, 103, 101, 115, 32, 97, 114, 101, 32, 103, 111, 110, 101])) (lt' rfl) rfl ?_
      refine WL_nil ?_
      refine W_ret ?_
      obtain rfl := Option.some.inj H
      exact Exists.intro () (And.intro rfl (And.intro hC.keep trivial))
    · have H := iteF h2 H
      refine W_seq ?_
      refine W_region ?_
      refine WL_ieql (a := (p0 : Int)) (b := (5 : Int)) (lt' rfl) rfl rfl ?_
      refine WL_assign (v := (.bool ((p0 : Int) == (5 : Int)))) (lt' rfl) rfl ?_
      refine WL_nil ?_
      refine W_cond (t := ((p0 : Int) == (5 : Int))) rfl (fun h3 => ?_) (fun h3 => ?_)
      · have H := iteT h3 H
        refine W_seq ?_
        refine W_region ?_
        refine WL_assign (v := (vstr [109, 97, 105, 108, 98, 111, 120, 32, 105, 115, 32, 102, 117, 108, 108])) (lt' rfl) rfl ?_
        refine WL_nil ?_
        refine W_ret ?_
        obtain rfl := Option.some.inj H
        exact Exists.intro () (And.intro rfl (And.intro hC.keep trivial))
      · have H := iteF h3 H
        refine W_seq ?_
        refine W_region ?_
        refine WL_ieql (a := (p0 : Int)) (b := (6 : Int)) (lt' rfl) rfl rfl ?_
        refine WL_assign (v := (.bool ((p0 : Int) == (6 : Int)))) (lt' rfl) rfl ?_
        refine WL_nil ?_
        refine W_cond (t := ((p0 : Int) == (6 : Int))) rfl (fun h4 => ?_) (fun h4 => ?_)
        · have H := iteT h4 H
          refine W_seq ?_
          refine W_region ?_
          refine WL_assign (v := (vstr [110, 111, 32, 105, 100, 101, 110, 116, 105, 102, 105, 101, 114, 115, 32, 108, 101, 102, 116])) (lt' rfl) rfl ?_
          refine WL_nil ?_
          refine W_ret ?_
          obtain rfl := Option.some.inj H
          exact Exists.intro () (And.intro rfl (And.intro hC.keep trivial))
        · have H := iteF h4 H
          refine W_seq ?_
          refine W_region ?_
          refine WL_ieql (a := (p0 : Int)) (b := (3 : Int)) (lt' rfl) rfl rfl ?_
          refine WL_assign (v := (.bool ((p0 : Int) == (3 : Int)))) (lt' rfl) rfl ?_
          refine WL_nil ?_
          refine W_cond (t := ((p0 : Int) == (3 : Int))) rfl (fun h5 => ?_) (fun h5 => ?_)
          · have H := iteT h5 H
            refine W_seq ?_
            refine W_region ?_
            refine WL_assign (v := (vstr [110, 111, 32, 115, 117, 99, 104, 32, 109, 101, 115, 115, 97, 103, 101])) (lt' rfl) rfl ?_
            refine WL_nil ?_
            refine W_ret ?_
            obtain rfl := Option.some.inj H
            exact Exists.intro () (And.intro rfl (And.intro hC.keep trivial))
          · have H := iteF h5 H
            refine W_skip ?_
            refine W_seq ?_
            refine W_region ?_
            refine WL_assign (v := (vstr [102, 97, 105, 108, 101, 100])) (lt' rfl) rfl ?_
            refine WL_nil ?_
            refine W_ret ?_
            obtain rfl := Option.some.inj H
            exact Exists.intro () (And.intro rfl (And.intro hC.keep trivial))

-- cubbyhole/cubbyholelaw19.FetchTexts
def F_law19_FetchTexts_j1 (N : Nat) (x1 : Bool) : Option Bool :=
  some x1
def F_law19_FetchTexts (N : Nat) (p0 : Int) : Option Bool :=
  Option.bind (F_law19_alive N ) fun y7 => (if y7 = true then Option.bind (F_fetch_Status N p0) fun y13 => Option.bind (F_ref19_Status N p0) fun y18 => (if ((y13 : Int) == (y18 : Int)) = true then Option.bind (F_fetch_Text N p0) fun y24 => Option.bind (F_ref19_Text N p0) fun y29 => F_law19_FetchTexts_j1 N   ((y24 : List UInt8) == y29) else F_law19_FetchTexts_j1 N   false) else F_law19_FetchTexts_j1 N   false)
set_option maxRecDepth 100000 in
set_option maxHeartbeats 4000000 in
theorem f8_ok (N : Nat) {O0 : List Nat} {w0 : World} (hO : ∀ b, b ∈ O0 → b < w0.heap.size) (hG : rGlob.rel O0 w0 [] ()) (p0 : Int) (y : Bool) (H : F_law19_FetchTexts N p0 = some y) :
    Calls Tryz.prog 8 (List.toArray [(.int .i64 p0)]) w0 fun e w => ∃ z : Unit, e = .returned (.bool y) ∧ Keep [] w0 w ∧ True := by
  have hNK : ∀ b : Nat, b ∈ ([] : List Nat) → False := by intro b h; cases h
  have hC := ((Ctx.start hO).imm hG)
  refine calls_of_W (ts := [2]) Tryz.func8 rfl rfl Tryz.ntmps8 (Nat.le_of_ble_eq_true rfl) ?_
  refine W_seq ?_
  refine W_region ?_
  refine WL_assign (v := (.bool false)) (lt' rfl) rfl ?_
  refine WL_nil ?_
  refine W_joinS Unit (fun (_ : Unit) (ρ : Env) (w : World) => ∃ (x1 : Bool) (ρ0 : Env) (O : List Nat), ρ = upds ρ0 [(2, (.bool x1))] ∧ Ctx O0 [] w0 O w [.imm rGlob [] ()] ∧ F_law19_FetchTexts_j1 N   x1 = some y) (fun K6 kj5 => ?_) ?_
  · skip
    refine W_region ?_
    obtain ⟨y7, h8, H⟩ := bindE H
    refine WL_call (cap := []) en36 (lt' rfl) rfl rfl (f36_ok N hC.lt (hC.immAt (i := 0) rfl)  y7 h8) ?_
    rintro _ w9 ⟨hk10, -⟩
    have hC11 := hC.call hk10
    refine WL_move (v := (.bool y7)) (lt' rfl) rfl ?_
    rcases Bool.eq_false_or_eq_true y7 with h12 | h12
    · have H := iteT h12 H
      refine WL_yes rfl rfl rfl h12 ?_
      refine WL_move (v := (.int .i64 p0)) (lt' rfl) rfl ?_
      refine WL_yes rfl rfl rfl h12 ?_
      obtain ⟨y13, h14, H⟩ := bindE H
      refine WL_call (cap := []) en37 (lt' rfl) rfl rfl (f37_ok N hC11.lt (hC11.immAt (i := 0) rfl) p0 y13 h14) ?_
      rintro _ w15 ⟨hk16, -⟩
      have hC17 := hC11.call hk16
      refine WL_yes rfl rfl rfl h12 ?_
      refine WL_move (v := (.int .i64 p0)) (lt' rfl) rfl ?_
      refine WL_yes rfl rfl rfl h12 ?_
      obtain ⟨y18, h19, H⟩ := bindE H
      refine WL_call (cap := []) en38 (lt' rfl) rfl rfl (f38_ok N hC17.lt (hC17.immAt (i := 0) rfl) p0 y18 h19) ?_
      rintro _ w20 ⟨hk21, -⟩
      have hC22 := hC17.call hk21
      refine WL_yes rfl rfl rfl h12 ?_
      refine WL_ieql (a := (y13 : Int)) (b := (y18 : Int)) (lt' rfl) rfl rfl ?_
      refine WL_pickT (v := (.bool ((y13 : Int) == (y18 : Int)))) (lt' rfl) (by show Value.bool _ = _; rw [h12]) rfl ?_
      refine WL_move (v := (.bool ((y13 : Int) == (y18 : Int)))) (lt' rfl) rfl ?_
      rcases Bool.eq_false_or_eq_true ((y13 : Int) == (y18 : Int)) with h23 | h23
      · have H := iteT h23 H
        refine WL_yes rfl rfl rfl h23 ?_
        refine WL_move (v := (.int .i64 p0)) (lt' rfl) rfl ?_
        refine WL_yes rfl rfl rfl h23 ?_
        obtain ⟨y24, h25, H⟩ := bindE H
        refine WL_call (cap := []) en39 (lt' rfl) rfl rfl (f39_ok N hC22.lt (hC22.immAt (i := 0) rfl) p0 y24 h25) ?_
        rintro _ w26 ⟨hk27, -⟩
        have hC28 := hC22.call hk27
        refine WL_yes rfl rfl rfl h23 ?_
        refine WL_move (v := (.int .i64 p0)) (lt' rfl) rfl ?_
        refine WL_yes rfl rfl rfl h23 ?_
        obtain ⟨y29, h30, H⟩ := bindE H
        refine WL_call (cap := []) en40 (lt' rfl) rfl rfl (f40_ok N hC28.lt (hC28.immAt (i := 0) rfl) p0 y29 h30) ?_
        rintro _ w31 ⟨hk32, -⟩
        have hC33 := hC28.call hk32
        refine WL_yes rfl rfl rfl h23 ?_
        refine WL_seql (a := y24) (b := y29) (lt' rfl) rfl rfl ?_
        refine WL_pickT (v := (.bool ((y24 : List UInt8) == y29))) (lt' rfl) (by show Value.bool _ = _; rw [h23]) rfl ?_
        refine WL_assign (v := (.bool ((y24 : List UInt8) == y29))) (lt' rfl) rfl ?_
        refine WL_nil ?_
        exact kj5 () _ _ ⟨((y24 : List UInt8) == y29), _, _, self_upds ⟨rfl, trivial⟩, hC33.pick [0] (by decide) rfl, H⟩
      · have H := iteF h23 H
        refine WL_no rfl rfl rfl (by rw [h23]; rfl) (lt' rfl) ?_
        refine WL_no rfl rfl rfl (by rw [h23]; rfl) (lt' rfl) ?_
        refine WL_no rfl rfl rfl (by rw [h23]; rfl) (lt' rfl) ?_
        refine WL_no rfl rfl rfl (by rw [h23]; rfl) (lt' rfl) ?_
        refine WL_no rfl rfl rfl (by rw [h23]; rfl) (lt' rfl) ?_
        refine WL_pickF (v := (.bool false)) (lt' rfl) (by show Value.bool _ = _; rw [h23]) rfl ?_
        refine WL_assign (v := (.bool false)) (lt' rfl) rfl ?_
        refine WL_nil ?_
        exact kj5 () _ _ ⟨false, _, _, self_upds ⟨rfl, trivial⟩, hC22.pick [0] (by decide) rfl, H⟩
    · have H := iteF h12 H
      refine WL_no rfl rfl rfl (by rw [h12]; rfl) (lt' rfl) ?_
      refine WL_no rfl rfl rfl (by rw [h12]; rfl) (lt' rfl) ?_
      refine WL_no rfl rfl rfl (by rw [h12]; rfl) (lt' rfl) ?_
      refine WL_no rfl rfl rfl (by rw [h12]; rfl) (lt' rfl) ?_
      refine WL_no rfl rfl rfl (by rw [h12]; rfl) (lt' rfl) ?_
      refine WL_pickF (v := (.bool false)) (lt' rfl) (by show Value.bool _ = _; rw [h12]) rfl ?_
      refine WL_move (v := (.bool false)) (lt' rfl) rfl ?_
      refine WL_no rfl rfl rfl rfl (lt' rfl) ?_
      refine WL_no rfl rfl rfl rfl (lt' rfl) ?_
      refine WL_no rfl rfl rfl rfl (lt' rfl) ?_
      refine WL_no rfl rfl rfl rfl (lt' rfl) ?_
      refine WL_no rfl rfl rfl rfl (lt' rfl) ?_
      refine WL_pickF (v := (.bool false)) (lt' rfl) rfl rfl ?_
      refine WL_assign (v := (.bool false)) (lt' rfl) rfl ?_
      refine WL_nil ?_
      exact kj5 () _ _ ⟨false, _, _, self_upds ⟨rfl, trivial⟩, hC11.pick [0] (by decide) rfl, H⟩
  · rintro - - w4 ⟨x1, ρ0, O3, rfl, hC2, H⟩
    refine W_ret ?_
    obtain rfl := Option.some.inj H
    exact Exists.intro () (And.intro rfl (And.intro hC2.keep trivial))

end Go.Proofs.YtflgkiddnmpfbaaGreatDoor
