/- CommandSame: for all arguments the law returns true, and the arguments are left as they were. Conditions: the listed package variables hold what the program's text lays. -/
import Derived.Test.YtflgkiddnmpfbaaGreatDoorCards
import Derived.Test.YtflgkiddnmpfbaaGreatDoorTie
import Derived.Test.YtflgkiddnmpfbaaGreatDoorCsPi
import Derived.Test.YtflgkiddnmpfbaaGreatDoorCsWi
import Derived.Test.YtflgkiddnmpfbaaGreatDoorCsLa
import Derived.WalkKit
import Derived.ProofKit
import Derived.OpenShut
import Derived.Deep.DeepHandedRow
set_option linter.unusedVariables false
namespace Go.Proofs.YtflgkiddnmpfbaaGreatDoor
open Go Go.Gx Go.Mx Go.ChangeShapes Go.WideShapes Go.ChangeAt Go.RowKit

section
variable {H : Type} {enc : TypeId × Value → H} {W : World}
theorem rd_ApiRange68 : Rds enc Tryz.prog W rApiRange 68 wfApiRange :=
  rds_struct (f := fun x : ApiRange => (x.Lo, x.Hi)) (Q := fun a => ((IntKind.min .u32 ≤ a.1 ∧ a.1 ≤ IntKind.max .u32)) ∧ ((IntKind.min .u32 ≤ a.2 ∧ a.2 ≤ IntKind.max .u32))) Tryz.underlying68 (by kernel_rfl)
    (rsq_pair (rds_int (enc := enc) (W := W) (k := .u32) (t := 43) (by kernel_rfl) (by kernel_rfl)) <| rsq_one (rds_int (enc := enc) (W := W) (k := .u32) (t := 43) (by kernel_rfl) (by kernel_rfl))) (by kernel_rfl)
    (fun a => ⟨⟨a.1, a.2⟩, rfl⟩)
theorem rd_ApiCommand31 : Rds enc Tryz.prog W rApiCommand 31 wfApiCommand :=
  rds_struct (f := fun x : ApiCommand => (x.Tag, x.Kind, x.Mailbox, x.Set, x.Items, x.Mode, x.Silent, x.Flags, x.Data)) (Q := fun a => (List.length a.1 ≤ maxLen) ∧ ((IntKind.min .i64 ≤ a.2.1 ∧ a.2.1 ≤ IntKind.max .i64)) ∧ (List.length a.2.2.1 ≤ maxLen) ∧ ((List.length a.2.2.2.1 ≤ maxLen ∧ ∀ y ∈ a.2.2.2.1, wfApiRange y)) ∧ ((IntKind.min .i64 ≤ a.2.2.2.2.1 ∧ a.2.2.2.2.1 ≤ IntKind.max .i64)) ∧ ((IntKind.min .i64 ≤ a.2.2.2.2.2.1 ∧ a.2.2.2.2.2.1 ≤ IntKind.max .i64)) ∧ (True) ∧ (True) ∧ ((List.length a.2.2.2.2.2.2.2.2 ≤ maxLen ∧ ∀ y ∈ a.2.2.2.2.2.2.2.2, True))) Tryz.underlying31 (by kernel_rfl)
    (rsq_pair (rds_str (enc := enc) (W := W) (t := 9) (by kernel_rfl) (by kernel_rfl)) <| rsq_pair (rds_int (enc := enc) (W := W) (k := .i64) (t := 3) (by kernel_rfl) (by kernel_rfl)) <| rsq_pair (rds_str (enc := enc) (W := W) (t := 9) (by kernel_rfl) (by kernel_rfl)) <| rsq_pair (rds_sl (t := 27) (e := 68) (rd_ApiRange68 (enc := enc) (W := W)) (by kernel_rfl) (by kernel_rfl) (of_decide_eq_true (by kernel_rfl))) <| rsq_pair (rds_int (enc := enc) (W := W) (k := .i64) (t := 3) (by kernel_rfl) (by kernel_rfl)) <| rsq_pair (rds_int (enc := enc) (W := W) (k := .i64) (t := 3) (by kernel_rfl) (by kernel_rfl)) <| rsq_pair (rds_bool (enc := enc) (W := W) (t := 4) (by kernel_rfl) (by kernel_rfl)) <| rsq_pair (rds_u8 (enc := enc) (W := W) (t := 28) (by kernel_rfl) (by kernel_rfl)) <| rsq_one (rds_sl (t := 29) (e := 5) (rds_u8 (enc := enc) (W := W) (t := 5) (by kernel_rfl) (by kernel_rfl)) (by kernel_rfl) (by kernel_rfl) (of_decide_eq_true (by kernel_rfl)))) (by kernel_rfl)
    (fun a => ⟨⟨a.1, a.2.1, a.2.2.1, a.2.2.2.1, a.2.2.2.2.1, a.2.2.2.2.2.1, a.2.2.2.2.2.2.1, a.2.2.2.2.2.2.2.1, a.2.2.2.2.2.2.2.2⟩, rfl⟩)
end

set_option maxRecDepth 100000 in
theorem contract (H : Type) (enc : TypeId × Value → H) (W : World) (args : Array Value) (ds gs : List (DataW H)) (before : List MemPlace) (base : Nat)
    (hval : ∀ (j : Nat) t v, Tryz.f5.params[j]? = some t → args[j]? = some v → Value.okWide Tryz.prog W .any base t v) (hW : DataW.Whole enc Tryz.prog Tryz.f5.params.toList Rows.commandSameSpec.vars false W args.toList ds gs before) (hL : laidMetH Tryz.prog Rows.commandSameRow.laid W) (hS : W.ShapedOpen Tryz.prog) :
    Calls Tryz.prog 5 args W fun e W' => ∃ v, e = .returned v ∧ Rows.commandSameSpec.post enc Tryz.prog Tryz.f5 false true false false W args v W' := by
  have hW0 := hW
  obtain ⟨p, q, hA0, hV, rfl, hfz, hnd⟩ := hW
  have hA : DataW.TrodAll enc Tryz.prog W 0 (fun _ => true) true Tryz.f5.params.toList args.toList ds p := hA0
  rw [Tryz.params5] at hA hval
  obtain ⟨v0, vs0, d0, ds0, p0, q0, hargs, rfl, ⟨n0, h0⟩, r0⟩ := trodAll1 hA
  obtain ⟨v1, vs1, d1, ds1, p1, q1, rfl, rfl, ⟨n1, h1⟩, r1⟩ := trodAll1 r0
  obtain ⟨rfl, rfl⟩ := trodAll0 r1
  obtain rfl : args = #[v0, v1] := by cases args; simp_all
  obtain ⟨x0, hx0, wf0⟩ := (rd_ApiCommand31 (enc := enc) (W := W)).2 _ _ _ _ h0
  obtain ⟨cs0, rfl⟩ := val_agg (by kernel_rfl) (hval 0 31 v0 rfl rfl)
  obtain ⟨x1, hx1, wf1⟩ := (rd_ApiCommand31 (enc := enc) (W := W)).2 _ _ _ _ h1
  obtain ⟨cs1, rfl⟩ := val_agg (by kernel_rfl) (hval 1 31 v1 rfl rfl)
  obtain ⟨N, hN⟩ := law x0 x1 wf0 wf1
  refine (f5_ok N (O0 := []) (w0 := W) (by simp) (glob_of (pi_of hL hS)) cs0 x0 hx0 cs1 x1 hx1 true hN).mono ?_
  rintro e W' ⟨_, rfl, hk, _⟩
  exact ⟨_, rfl, post_true lo mr full (by kernel_rfl) (tb := 4) (by kernel_rfl) (by kernel_rfl) rfl rfl hW0 ⟨hk.os, hk.output, hk.size, fun b hb => hk.block b hb (by simp)⟩⟩

theorem reads (os : Os) {H : Type} (enc : TypeId × Value → H) : ∃ places, DataW.whole enc Tryz.prog ((laidWorld os).forCall (fun _ _ => 0) ⟨#[], #[Value.agg #[Value.string ⟨([] : List UInt8).toArray⟩, Value.int .i64 0, Value.string ⟨([] : List UInt8).toArray⟩, Value.slice none 0 0, Value.int .i64 0, Value.int .i64 0, Value.bool false, Value.int .u8 0, Value.slice none 0 0], Value.agg #[Value.string ⟨([] : List UInt8).toArray⟩, Value.int .i64 0, Value.string ⟨([] : List UInt8).toArray⟩, Value.slice none 0 0, Value.int .i64 0, Value.int .i64 0, Value.bool false, Value.int .u8 0, Value.slice none 0 0]], []⟩).memory Tryz.f5.params.toList Rows.commandSameSpec.vars false #[Value.agg #[Value.string ⟨([] : List UInt8).toArray⟩, Value.int .i64 0, Value.string ⟨([] : List UInt8).toArray⟩, Value.slice none 0 0, Value.int .i64 0, Value.int .i64 0, Value.bool false, Value.int .u8 0, Value.slice none 0 0], Value.agg #[Value.string ⟨([] : List UInt8).toArray⟩, Value.int .i64 0, Value.string ⟨([] : List UInt8).toArray⟩, Value.slice none 0 0, Value.int .i64 0, Value.int .i64 0, Value.bool false, Value.int .u8 0, Value.slice none 0 0]].toList 8 = some ([.agg [.lit (.string []), .lit (.int .i64 0), .lit (.string []), .nil, .lit (.int .i64 0), .lit (.int .i64 0), .lit (.bool false), .lit (.int .u8 0), .nil], .agg [.lit (.string []), .lit (.int .i64 0), .lit (.string []), .nil, .lit (.int .i64 0), .lit (.int .i64 0), .lit (.bool false), .lit (.int .u8 0), .nil]], [], places) :=
  ⟨[], by kernel_rfl⟩

set_option maxRecDepth 100000 in
theorem lifted (os : Os) (started : os.Started) (H : Type) (enc : TypeId × Value → H) (F : Stop.Interp) :
    ReturnsInHanded {} Tryz.checked os 5 .any ((OpenSpec.ofChange Rows.commandSameSpec).preRow enc Tryz.prog Tryz.f5 Rows.commandSameRow.domain false Rows.commandSameRow.laid) (((OpenSpec.ofChange Rows.commandSameSpec).at F).post enc Tryz.prog Tryz.f5 false true false false) := by
  obtain ⟨places, hx⟩ := reads os enc
  refine returnsInHanded_of_row (C := Tryz.checked) (s := OpenSpec.ofChange Rows.commandSameSpec) own started (by kernel_rfl) Tryz.func5
    (witness_row_atRef (enc := enc) (C := Tryz.checked) false (laidWorld os) #[Value.agg #[Value.string ⟨([] : List UInt8).toArray⟩, Value.int .i64 0, Value.string ⟨([] : List UInt8).toArray⟩, Value.slice none 0 0, Value.int .i64 0, Value.int .i64 0, Value.bool false, Value.int .u8 0, Value.slice none 0 0], Value.agg #[Value.string ⟨([] : List UInt8).toArray⟩, Value.int .i64 0, Value.string ⟨([] : List UInt8).toArray⟩, Value.slice none 0 0, Value.int .i64 0, Value.int .i64 0, Value.bool false, Value.int .u8 0, Value.slice none 0 0]] rfl (by kernel_rfl) (by kernel_rfl) (by kernel_rfl)
      (OpenSpec.preRow_of_cond 8 hx (by kernel_rfl) (fun k hk => by cases hk) (by kernel_rfl) (laid_met os _))) ?_
  intro W base args ds gs before hval hW _ _ _ hL hS _
  exact contract H enc W args ds gs before base hval hW hL hS
theorem and2 {a b : Bool} (h : a = true) (k : b = true) : (a && b) = true := by rw [h, k]; rfl
set_option maxRecDepth 100000 in
set_option maxHeartbeats 4000000 in
theorem closed : joinedFacts Tryz.pinned.checked.prog 5 Tryz.f5 (OpenSpec.ofChange Rows.commandSameSpec).bare Rows.commandSameRow = true := by
  unfold joinedFacts
  repeat' (with_reducible refine and2 ?_ ?_)
  all_goals (as_aux_lemma => kernel_rfl)
set_option maxHeartbeats 4000000 in
theorem wrapper : Func.isWrapper Tryz.pinned.checked.prog Tryz.f5 Rows.commandSameRow.wrapper Rows.commandSameRow.mainSum := by
  unfold Func.isWrapper
  first | (rw [if_pos (by decide +kernel)]; kernel_rfl) | (rw [if_neg (by decide +kernel)]; exact ⟨rfl, rfl⟩)
theorem named : Tryz.pinned.checked.prog.funcNamed Rows.commandSameRow.func = some 5 := by kernel_rfl
theorem said : Rows.CommandSameSaid :=
  OpenClaim.holds_of_cond 5 Tryz.f5 rfl rfl rfl rfl rfl rfl rfl ⟨rfl, rfl, rfl, rfl, rfl⟩ rfl rfl rfl rfl rfl named Tryz.func5 closed
    (of_decide_eq_true (by kernel_rfl)) wrapper
    (fun os started H enc _ F => by rw [OpenClaim.pre_eq_preRow]; exact lifted os started H enc F)
theorem plain (f : FuncId) (fn : Func) (hf : Tryz.pinned.checked.prog.funcNamed "cubbyhole/cubbyholelaw07.CommandSame" = some f) (hfn : Tryz.pinned.checked.prog.funcs[f]? = some fn) :
    true = Tryz.pinned.checked.prog.looks [] ∧ ∀ (j : Nat) t, fn.params[j]? = some t → Tryz.pinned.checked.prog.wantsStandIn t = false := by
  obtain rfl : f = 5 := Option.some.inj ((show Tryz.prog.funcNamed "cubbyhole/cubbyholelaw07.CommandSame" = some 5 by kernel_rfl).symm.trans hf) |>.symm
  obtain rfl : fn = Tryz.f5 := (Option.some.inj (Tryz.func5.symm.trans hfn)).symm
  refine ⟨by kernel_rfl, fun j t ht => ?_⟩
  have hall : (Tryz.f5.params.toList.all fun t => !(Tryz.prog.wantsStandIn t)) = true := by kernel_rfl
  have := List.all_eq_true.1 hall t (by rw [Array.mem_toList_iff]; exact Array.mem_of_getElem? ht)
  show Tryz.prog.wantsStandIn t = false
  simpa using this
/-- THE CARD. -/
theorem commandSame_holds : Rows.CommandSameCardSaid :=
  Claim7.holds_tied_plain_at .later [] _ _ _ _ said (fun _ h => by cases h) (by kernel_rfl) (fun _ h => by cases h) commandSame_row_tie rfl ⟨rfl, rfl⟩ (by kernel_rfl) rfl plain (by kernel_rfl)
#print axioms commandSame_holds
end Go.Proofs.YtflgkiddnmpfbaaGreatDoor
