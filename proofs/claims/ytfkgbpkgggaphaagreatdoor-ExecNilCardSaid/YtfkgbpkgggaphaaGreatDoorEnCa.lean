/- ExecNil: for all arguments the law returns true, and the arguments are left as they were. Conditions: the listed package variables hold what the program's text lays. -/
import Derived.Test.YtfkgbpkgggaphaaGreatDoorCards
import Derived.Test.YtfkgbpkgggaphaaGreatDoorTie
import Derived.Test.YtfkgbpkgggaphaaGreatDoorEnPi
import Derived.Test.YtfkgbpkgggaphaaGreatDoorEnWi
import Derived.Test.YtfkgbpkgggaphaaGreatDoorEnLa
import Derived.WalkKit
import Derived.ProofKit
import Derived.OpenShut
import Derived.Deep.DeepHandedRow
set_option linter.unusedVariables false
namespace Go.Proofs.YtfkgbpkgggaphaaGreatDoor
open Go Go.Gx Go.Mx Go.Sx Go.ChangeShapes Go.WideShapes Go.ChangeAt Go.RowKit

theorem rgl {hgl : Heap} (h : AlOK hgl) (E : List Blk) : RGl Tryz.prog glA ⟨hgl ++ E, PhA (hgl ++ E), [], []⟩ := rgl_of h.gl (of_decide_eq_true (by kernel_rfl)) E
theorem hokA0 {hgl : Heap} {Gg : Gh} (h : AlOK hgl) : HOK Tryz.prog hgl Gg (addHook (mext tab) 5 yesG) := hok_add (hok_ext tab xfn) fun B W0 hL args h0 r hr => by
  cases args with
  | nil =>
    cases hr
    obtain ⟨h', hc⟩ := retIs_spec h.a5
    exact closed_call hmo hng (hok_ext tab xfn) hL hc rfl rfl
  | cons => cases hr
theorem hokA1 {hgl : Heap} {Gg : Gh} (h : AlOK hgl) : HOK Tryz.prog hgl Gg (addHook (addHook (mext tab) 5 yesG) 8 (closedG cl8_a 9 cl8_v cl8_b)) := hok_add (hokA0 h) fun B W0 hL args h0 r hr => closedG_ok hmo hng (hok_ext tab xfn) hL h.c8 rfl (by kernel_rfl) (by kernel_rfl) h.len hr
theorem hokA {hgl : Heap} {Gg : Gh} (h : AlOK hgl) : HOK Tryz.prog hgl Gg hkA := hokA1 h
set_option maxRecDepth 100000 in
theorem contract (H : Type) (enc : TypeId × Value → H) (W : World) (args : Array Value) (ds gs : List (DataW H)) (before : List MemPlace) (base : Nat)
    (hval : ∀ (j : Nat) t v, Tryz.f3.params[j]? = some t → args[j]? = some v → Value.okWide Tryz.prog W .any base t v) (hW : DataW.Whole enc Tryz.prog Tryz.f3.params.toList Rows.execNilSpec.vars false W args.toList ds gs before) (hL : laidMetH Tryz.prog Rows.execNilRow.laid W) (hS : W.ShapedOpen Tryz.prog) :
    Calls Tryz.prog 3 args W fun e W' => ∃ v, e = .returned v ∧ Rows.execNilSpec.post enc Tryz.prog Tryz.f3 false true false false W args v W' := by
  have hW0 := hW
  obtain ⟨p, q, hA0, hV, rfl, hfz, hnd⟩ := hW
  have hA : DataW.TrodAll enc Tryz.prog W 0 (fun _ => true) true Tryz.f3.params.toList args.toList ds p := hA0
  rw [Tryz.params3] at hA hval
  obtain ⟨v0, vs0, d0, ds0, p0, q0, hargs, rfl, _, r0⟩ := trodAll1 hA
  obtain ⟨v1, vs1, d1, ds1, p1, q1, rfl, rfl, _, r1⟩ := trodAll1 r0
  obtain ⟨rfl, rfl⟩ := trodAll0 r1
  obtain ⟨hgl, Gg, hLd, hal⟩ := pi_of hL hS
  obtain ⟨ps, hv, _⟩ := (show laidMet Tryz.prog Rows.execNilRow.laid W from hL)
  refine (law_call (gl := glA) (ct := fun N => tabC (F_law21_ExecNil_ct N)) (n := 1500) (pl := F_law21_ExecNil_pl) (us := [(.pair .str (.pair (.int .i64) (.pair .str (.pair (.sl (.pair (.int .u32) (.int .u32))) (.pair (.int .i64) (.pair (.int .i64) (.pair .bool (.pair .u8 (.sl .u8))))))))), (.int .i64)]) (F := fun N x => F_law21_ExecNil N x.1 x.2.1) hmo hng (hokA hal) hLd (rgl hal) F_law21_ExecNil_ok F_law21_ExecNil_k rfl F_law21_ExecNil_s (ts := [26, 3]) (by kernel_rfl) hA
    (fun j t v h1 h2 => hval j t v (by simpa using h1) (by simpa using h2)) (laid_cells hv rfl) law).mono ?_
  rintro e W' ⟨rfl, hg⟩
  exact ⟨_, rfl, post_true lo mr full (by kernel_rfl) (tb := 4) (by kernel_rfl) (by kernel_rfl) rfl rfl hW0 hg⟩

theorem reads (os : Os) {H : Type} (enc : TypeId × Value → H) : ∃ places, DataW.whole enc Tryz.prog ((laidWorld os).forCall (fun _ _ => 0) ⟨#[], #[Value.agg #[Value.string ⟨([] : List UInt8).toArray⟩, Value.int .i64 0, Value.string ⟨([] : List UInt8).toArray⟩, Value.slice none 0 0, Value.int .i64 0, Value.int .i64 0, Value.bool false, Value.int .u8 0, Value.slice none 0 0], Value.int .i64 0], []⟩).memory Tryz.f3.params.toList Rows.execNilSpec.vars false #[Value.agg #[Value.string ⟨([] : List UInt8).toArray⟩, Value.int .i64 0, Value.string ⟨([] : List UInt8).toArray⟩, Value.slice none 0 0, Value.int .i64 0, Value.int .i64 0, Value.bool false, Value.int .u8 0, Value.slice none 0 0], Value.int .i64 0].toList 8 = some ([.agg [.lit (.string []), .lit (.int .i64 0), .lit (.string []), .nil, .lit (.int .i64 0), .lit (.int .i64 0), .lit (.bool false), .lit (.int .u8 0), .nil], .lit (.int .i64 0)], [], places) :=
  ⟨[], by kernel_rfl⟩

set_option maxRecDepth 100000 in
theorem lifted (os : Os) (started : os.Started) (H : Type) (enc : TypeId × Value → H) (F : Stop.Interp) :
    ReturnsInHanded {} Tryz.checked os 3 .any ((OpenSpec.ofChange Rows.execNilSpec).preRow enc Tryz.prog Tryz.f3 Rows.execNilRow.domain false Rows.execNilRow.laid) (((OpenSpec.ofChange Rows.execNilSpec).at F).post enc Tryz.prog Tryz.f3 false true false false) := by
  obtain ⟨places, hx⟩ := reads os enc
  refine returnsInHanded_of_row (C := Tryz.checked) (s := OpenSpec.ofChange Rows.execNilSpec) own started (by kernel_rfl) Tryz.func3
    (witness_row_atRef (enc := enc) (C := Tryz.checked) false (laidWorld os) #[Value.agg #[Value.string ⟨([] : List UInt8).toArray⟩, Value.int .i64 0, Value.string ⟨([] : List UInt8).toArray⟩, Value.slice none 0 0, Value.int .i64 0, Value.int .i64 0, Value.bool false, Value.int .u8 0, Value.slice none 0 0], Value.int .i64 0] rfl (by kernel_rfl) (by kernel_rfl) (by kernel_rfl)
      (OpenSpec.preRow_of_cond 8 hx (by kernel_rfl) (fun k hk => by cases hk) (by kernel_rfl) (laid_met os _))) ?_
  intro W base args ds gs before hval hW _ _ _ hL hS _
  exact contract H enc W args ds gs before base hval hW hL hS
theorem and2 {a b : Bool} (h : a = true) (k : b = true) : (a && b) = true := by rw [h, k]; rfl
set_option maxRecDepth 100000 in
set_option maxHeartbeats 4000000 in
theorem closed : joinedFacts Tryz.pinned.checked.prog 3 Tryz.f3 (OpenSpec.ofChange Rows.execNilSpec).bare Rows.execNilRow = true := by
  unfold joinedFacts
  repeat' (with_reducible refine and2 ?_ ?_)
  all_goals (as_aux_lemma => kernel_rfl)
set_option maxHeartbeats 4000000 in
theorem wrapper : Func.isWrapper Tryz.pinned.checked.prog Tryz.f3 Rows.execNilRow.wrapper Rows.execNilRow.mainSum := by
  unfold Func.isWrapper
  first | (rw [if_pos (by decide +kernel)]; kernel_rfl) | (rw [if_neg (by decide +kernel)]; exact ⟨rfl, rfl⟩)
theorem named : Tryz.pinned.checked.prog.funcNamed Rows.execNilRow.func = some 3 := by kernel_rfl
theorem said : Rows.ExecNilSaid :=
  OpenClaim.holds_of_cond 3 Tryz.f3 rfl rfl rfl rfl rfl rfl rfl ⟨rfl, rfl, rfl, rfl, rfl⟩ rfl rfl rfl rfl rfl named Tryz.func3 closed
    (of_decide_eq_true (by kernel_rfl)) wrapper
    (fun os started H enc _ F => by rw [OpenClaim.pre_eq_preRow]; exact lifted os started H enc F)
theorem plain (f : FuncId) (fn : Func) (hf : Tryz.pinned.checked.prog.funcNamed "cubbyhole/cubbyholelaw21.ExecNil" = some f) (hfn : Tryz.pinned.checked.prog.funcs[f]? = some fn) :
    false = Tryz.pinned.checked.prog.looks [] ∧ ∀ (j : Nat) t, fn.params[j]? = some t → Tryz.pinned.checked.prog.wantsStandIn t = false := by
  obtain rfl : f = 3 := Option.some.inj ((show Tryz.prog.funcNamed "cubbyhole/cubbyholelaw21.ExecNil" = some 3 by kernel_rfl).symm.trans hf) |>.symm
  obtain rfl : fn = Tryz.f3 := (Option.some.inj (Tryz.func3.symm.trans hfn)).symm
  refine ⟨by kernel_rfl, fun j t ht => ?_⟩
  have hall : (Tryz.f3.params.toList.all fun t => !(Tryz.prog.wantsStandIn t)) = true := by kernel_rfl
  have := List.all_eq_true.1 hall t (by rw [Array.mem_toList_iff]; exact Array.mem_of_getElem? ht)
  show Tryz.prog.wantsStandIn t = false
  simpa using this
/-- THE CARD. -/
theorem execNil_holds : Rows.ExecNilCardSaid :=
  Claim7.holds_tied_plain_at .later [] _ _ _ _ said (fun _ h => by cases h) (by kernel_rfl) (fun _ h => by cases h) execNil_row_tie rfl ⟨rfl, rfl⟩ (by kernel_rfl) rfl plain (by kernel_rfl)
#print axioms execNil_holds
end Go.Proofs.YtfkgbpkgggaphaaGreatDoor
