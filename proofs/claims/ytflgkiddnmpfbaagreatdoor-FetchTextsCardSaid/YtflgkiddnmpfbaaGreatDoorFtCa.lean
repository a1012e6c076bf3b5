/- FetchTexts: for all arguments the law returns true, and the arguments are left as they were. Conditions: the listed package variables hold what the program's text lays. -/
import Derived.Test.YtflgkiddnmpfbaaGreatDoorCards
import Derived.Test.YtflgkiddnmpfbaaGreatDoorTie
import Derived.Test.YtflgkiddnmpfbaaGreatDoorFtPi
import Derived.Test.YtflgkiddnmpfbaaGreatDoorFtWi
import Derived.Test.YtflgkiddnmpfbaaGreatDoorFtLa
import Derived.WalkKit
import Derived.ProofKit
import Derived.OpenShut
import Derived.Deep.DeepHandedRow
set_option linter.unusedVariables false
namespace Go.Proofs.YtflgkiddnmpfbaaGreatDoor
open Go Go.Gx Go.Mx Go.ChangeShapes Go.WideShapes Go.ChangeAt Go.RowKit

section
variable {H : Type} {enc : TypeId × Value → H} {W : World}
end

set_option maxRecDepth 100000 in
theorem contract (H : Type) (enc : TypeId × Value → H) (W : World) (args : Array Value) (ds gs : List (DataW H)) (before : List MemPlace) (base : Nat)
    (hval : ∀ (j : Nat) t v, Tryz.f8.params[j]? = some t → args[j]? = some v → Value.okWide Tryz.prog W .any base t v) (hW : DataW.Whole enc Tryz.prog Tryz.f8.params.toList Rows.fetchTextsSpec.vars false W args.toList ds gs before) (hL : laidMetH Tryz.prog Rows.fetchTextsRow.laid W) (hS : W.ShapedOpen Tryz.prog) :
    Calls Tryz.prog 8 args W fun e W' => ∃ v, e = .returned v ∧ Rows.fetchTextsSpec.post enc Tryz.prog Tryz.f8 false true false false W args v W' := by
  have hW0 := hW
  obtain ⟨p, q, hA0, hV, rfl, hfz, hnd⟩ := hW
  have hA : DataW.TrodAll enc Tryz.prog W 0 (fun _ => true) true Tryz.f8.params.toList args.toList ds p := hA0
  rw [Tryz.params8] at hA hval
  obtain ⟨v0, vs0, d0, ds0, p0, q0, hargs, rfl, ⟨n0, h0⟩, r0⟩ := trodAll1 hA
  obtain ⟨rfl, rfl⟩ := trodAll0 r0
  obtain rfl : args = #[v0] := by cases args; simp_all
  obtain ⟨x0, hx0, wf0⟩ := (rds_int (enc := enc) (W := W) (k := .i64) (t := 3) (by kernel_rfl) (by kernel_rfl)).2 _ _ _ _ h0
  have hv0 : v0 = .int .i64 x0 := val_one (by kernel_rfl) (hval 0 3 v0 rfl rfl) hx0
  subst hv0
  obtain ⟨N, hN⟩ := law x0 wf0
  refine (f8_ok N (O0 := []) (w0 := W) (by simp) (glob_of (pi_of hL hS)) x0 true hN).mono ?_
  rintro e W' ⟨_, rfl, hk, _⟩
  exact ⟨_, rfl, post_true lo mr full (by kernel_rfl) (tb := 4) (by kernel_rfl) (by kernel_rfl) rfl rfl hW0 ⟨hk.os, hk.output, hk.size, fun b hb => hk.block b hb (by simp)⟩⟩

theorem reads (os : Os) {H : Type} (enc : TypeId × Value → H) : ∃ places, DataW.whole enc Tryz.prog ((laidWorld os).forCall (fun _ _ => 0) ⟨#[], #[Value.int .i64 0], []⟩).memory Tryz.f8.params.toList Rows.fetchTextsSpec.vars false #[Value.int .i64 0].toList 8 = some ([.lit (.int .i64 0)], [], places) :=
  ⟨[], by kernel_rfl⟩

set_option maxRecDepth 100000 in
theorem lifted (os : Os) (started : os.Started) (H : Type) (enc : TypeId × Value → H) (F : Stop.Interp) :
    ReturnsInHanded {} Tryz.checked os 8 .any ((OpenSpec.ofChange Rows.fetchTextsSpec).preRow enc Tryz.prog Tryz.f8 Rows.fetchTextsRow.domain false Rows.fetchTextsRow.laid) (((OpenSpec.ofChange Rows.fetchTextsSpec).at F).post enc Tryz.prog Tryz.f8 false true false false) := by
  obtain ⟨places, hx⟩ := reads os enc
  refine returnsInHanded_of_row (C := Tryz.checked) (s := OpenSpec.ofChange Rows.fetchTextsSpec) own started (by kernel_rfl) Tryz.func8
    (witness_row_atRef (enc := enc) (C := Tryz.checked) false (laidWorld os) #[Value.int .i64 0] rfl (by kernel_rfl) (by kernel_rfl) (by kernel_rfl)
      (OpenSpec.preRow_of_cond 8 hx (by kernel_rfl) (fun k hk => by cases hk) (by kernel_rfl) (laid_met os _))) ?_
  intro W base args ds gs before hval hW _ _ _ hL hS _
  exact contract H enc W args ds gs before base hval hW hL hS
theorem and2 {a b : Bool} (h : a = true) (k : b = true) : (a && b) = true := by rw [h, k]; rfl
set_option maxRecDepth 100000 in
set_option maxHeartbeats 4000000 in
theorem closed : joinedFacts Tryz.pinned.checked.prog 8 Tryz.f8 (OpenSpec.ofChange Rows.fetchTextsSpec).bare Rows.fetchTextsRow = true := by
  unfold joinedFacts
  repeat' (with_reducible refine and2 ?_ ?_)
  all_goals (as_aux_lemma => kernel_rfl)
set_option maxHeartbeats 4000000 in
theorem wrapper : Func.isWrapper Tryz.pinned.checked.prog Tryz.f8 Rows.fetchTextsRow.wrapper Rows.fetchTextsRow.mainSum := by
  unfold Func.isWrapper
  first | (rw [if_pos (by decide +kernel)]; kernel_rfl) | (rw [if_neg (by decide +kernel)]; exact ⟨rfl, rfl⟩)
theorem named : Tryz.pinned.checked.prog.funcNamed Rows.fetchTextsRow.func = some 8 := by kernel_rfl
theorem said : Rows.FetchTextsSaid :=
  OpenClaim.holds_of_cond 8 Tryz.f8 rfl rfl rfl rfl rfl rfl rfl ⟨rfl, rfl, rfl, rfl, rfl⟩ rfl rfl rfl rfl rfl named Tryz.func8 closed
    (of_decide_eq_true (by kernel_rfl)) wrapper
    (fun os started H enc _ F => by rw [OpenClaim.pre_eq_preRow]; exact lifted os started H enc F)
theorem plain (f : FuncId) (fn : Func) (hf : Tryz.pinned.checked.prog.funcNamed "cubbyhole/cubbyholelaw19.FetchTexts" = some f) (hfn : Tryz.pinned.checked.prog.funcs[f]? = some fn) :
    true = Tryz.pinned.checked.prog.looks [] ∧ ∀ (j : Nat) t, fn.params[j]? = some t → Tryz.pinned.checked.prog.wantsStandIn t = false := by
  obtain rfl : f = 8 := Option.some.inj ((show Tryz.prog.funcNamed "cubbyhole/cubbyholelaw19.FetchTexts" = some 8 by kernel_rfl).symm.trans hf) |>.symm
  obtain rfl : fn = Tryz.f8 := (Option.some.inj (Tryz.func8.symm.trans hfn)).symm
  refine ⟨by kernel_rfl, fun j t ht => ?_⟩
  have hall : (Tryz.f8.params.toList.all fun t => !(Tryz.prog.wantsStandIn t)) = true := by kernel_rfl
  have := List.all_eq_true.1 hall t (by rw [Array.mem_toList_iff]; exact Array.mem_of_getElem? ht)
  show Tryz.prog.wantsStandIn t = false
  simpa using this
/-- THE CARD. -/
theorem fetchTexts_holds : Rows.FetchTextsCardSaid :=
  Claim7.holds_tied_plain_at .later [] _ _ _ _ said (fun _ h => by cases h) (by kernel_rfl) (fun _ h => by cases h) fetchTexts_row_tie rfl ⟨rfl, rfl⟩ (by kernel_rfl) rfl plain (by kernel_rfl)
#print axioms fetchTexts_holds
end Go.Proofs.YtflgkiddnmpfbaaGreatDoor
