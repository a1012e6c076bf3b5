/- TaskNil: for all arguments the law returns true, and the arguments are left as they were. Conditions: the listed package variables hold what the program's text lays. -/
import Derived.Test.YtnbfgnfpdlelbabGreatDoorCards
import Derived.Test.YtnbfgnfpdlelbabGreatDoorTnPi
import Derived.Test.YtnbfgnfpdlelbabGreatDoorTnWi
import Derived.Test.YtnbfgnfpdlelbabGreatDoorTnLa
import Derived.WalkKit
import Derived.ProofKit
import Derived.OpenShut
import Derived.Deep.DeepHandedRow
set_option linter.unusedVariables false
namespace Go.Proofs.YtnbfgnfpdlelbabGreatDoor
open Go Go.Gx Go.Mx Go.Sx Go.ChangeShapes Go.WideShapes Go.ChangeAt Go.RowKit
theorem rgl {hgl : za} (h : zht hgl) (E : List Blk) : RGl Tryz.prog glA ⟨hgl ++ E, PhA (hgl ++ E), [], []⟩ := ziU h.gl (of_decide_eq_true (by kernel_rfl)) E
theorem zjl {hgl : za} {Gg : Gh} (h : zht hgl) : HOK Tryz.prog hgl Gg (jb (zgg tab) 8 zh8) := zfW (zdk tab xfn) fun B W0 hL args h0 r hr => by
 cases args with
 | nil =>
  cases hr
  obtain ⟨h', hc⟩ := zep h.a8
  exact zcR hmo hng (zdk tab xfn) hL hc rfl rfl
 | cons => cases hr
theorem zjt {hgl : za} {Gg : Gh} (h : zht hgl) : HOK Tryz.prog hgl Gg (jb (jb (zgg tab) 8 zh8) 4 (w9 zfe 13 zgw zgn)) := zfW (zjl h) fun B W0 hL args h0 r hr => zd7 hmo hng (zdk tab xfn) hL h.c4 rfl (by kernel_rfl) (by kernel_rfl) h.len hr
theorem zjI {hgl : za} {Gg : Gh} (h : zht hgl) : HOK Tryz.prog hgl Gg hkA := zjt h
set_option maxRecDepth 100000 in
theorem zgO (H : Type) (enc : TypeId × Value -> H) (W : World) (args : Array Value) (ds gs : List (DataW H)) (before : List MemPlace) (base : Nat)
  (hval : ∀ (j : Nat) t v, Tryz.f3.params[j]? = some t -> args[j]? = some v -> Value.okWide Tryz.prog W .any base t v) (hW : DataW.Whole enc Tryz.prog Tryz.f3.params.toList Rows.taskNilSpec.vars false W args.toList ds gs before) (hL : laidMetH Tryz.prog Rows.taskNilRow.laid W) (hS : W.ShapedOpen Tryz.prog) :
  Calls Tryz.prog 3 args W fun e W' => ∃ v, e = .returned v /\ Rows.taskNilSpec.post enc Tryz.prog Tryz.f3 false true false false W args v W' := by
 have hW0 := hW
 obtain ⟨p, q, hA0, hV, rfl, hfz, hnd⟩ := hW
 have hA : DataW.TrodAll enc Tryz.prog W 0 (fun _ => true) true Tryz.f3.params.toList args.toList ds p := hA0
 rw [Tryz.params3] at hA hval
 obtain ⟨v0, vs0, d0, ds0, p0, q0, hargs, rfl, _, r0⟩ := xy hA
 obtain ⟨v1, vs1, d1, ds1, p1, q1, rfl, rfl, _, r1⟩ := xy r0
 obtain ⟨v2, vs2, d2, ds2, p2, q2, rfl, rfl, _, r2⟩ := xy r1
 obtain ⟨rfl, rfl⟩ := zdH r2
 obtain ⟨hgl, Gg, hLd, hal⟩ := zjh hL hS
 obtain ⟨ps, hv, _⟩ := (show laidMet Tryz.prog Rows.taskNilRow.laid W from hL)
 refine (zgD (gl := glA) (ct := fun N => zgK (zR N)) (n := 1500) (pl := zU) (us := [(.int .i8), (.int .i8), .u8]) (F := fun N x => zC N x.1 x.2.1 x.2.2.1) hmo hng (zjI hal) hLd (rgl hal) wL kr rfl kz (ts := [22, 22, 5]) (by kernel_rfl) hA
  (fun j t v h1 h2 => hval j t v (by simpa using h1) (by simpa using h2)) (zaK hv rfl) law).mono ?_
 rintro e W' ⟨rfl, hg⟩
 exact ⟨_, rfl, zeU lo mr full (by kernel_rfl) (tb := 4) (by kernel_rfl) (by kernel_rfl) rfl rfl hW0 hg⟩
theorem reads (os : Os) {H : Type} (enc : TypeId × Value -> H) : ∃ places, DataW.whole enc Tryz.prog ((zw os).forCall (fun _ _ => 0) ⟨#[], #[Value.int .i8 0, Value.int .i8 0, Value.int .u8 0], []⟩).memory Tryz.f3.params.toList Rows.taskNilSpec.vars false #[Value.int .i8 0, Value.int .i8 0, Value.int .u8 0].toList 8 = some ([.lit (.int .i8 0), .lit (.int .i8 0), .lit (.int .u8 0)], [], places) :=
 ⟨[], by kernel_rfl⟩
set_option maxRecDepth 100000 in
theorem lifted (os : Os) (started : os.Started) (H : Type) (enc : TypeId × Value -> H) (F : Stop.Interp) :
  ReturnsInHanded {} Tryz.checked os 3 .any ((OpenSpec.ofChange Rows.taskNilSpec).preRow enc Tryz.prog Tryz.f3 Rows.taskNilRow.domain false Rows.taskNilRow.laid) (((OpenSpec.ofChange Rows.taskNilSpec).at F).post enc Tryz.prog Tryz.f3 false true false false) := by
 obtain ⟨places, hx⟩ := reads os enc
 refine returnsInHanded_of_row (C := Tryz.checked) (s := OpenSpec.ofChange Rows.taskNilSpec) own started (by kernel_rfl) Tryz.func3
  (witness_row_atRef (enc := enc) (C := Tryz.checked) false (zw os) #[Value.int .i8 0, Value.int .i8 0, Value.int .u8 0] rfl (by kernel_rfl) (by kernel_rfl) (by kernel_rfl)
   (OpenSpec.preRow_of_cond 8 hx (by kernel_rfl) (fun k hk => by cases hk) (by kernel_rfl) (zgF os _))) ?_
 intro W base args ds gs before hval hW _ _ _ hL hS _
 exact zgO H enc W args ds gs before base hval hW hL hS
theorem zjM {a b : Bool} (h : a = true) (k : b = true) : (a && b) = true := by rw [h, k]; rfl
set_option maxRecDepth 100000 in
set_option maxHeartbeats 4000000 in
theorem closed : joinedFacts Tryz.pinned.checked.prog 3 Tryz.f3 (OpenSpec.ofChange Rows.taskNilSpec).bare Rows.taskNilRow = true := by
 unfold joinedFacts
 repeat' (with_reducible refine zjM ?_ ?_)
 all_goals (as_aux_lemma => kernel_rfl)
set_option maxHeartbeats 4000000 in
theorem wrapper : Func.isWrapper Tryz.pinned.checked.prog Tryz.f3 Rows.taskNilRow.wrapper Rows.taskNilRow.mainSum := by
 unfold Func.isWrapper
 first | (rw [if_pos (by decide +kernel)]; kernel_rfl) | (rw [if_neg (by decide +kernel)]; exact ⟨rfl, rfl⟩)
theorem named : Tryz.pinned.checked.prog.funcNamed Rows.taskNilRow.func = some 3 := by kernel_rfl
theorem said : Rows.TaskNilSaid :=
 OpenClaim.holds_of_cond 3 Tryz.f3 rfl rfl rfl rfl rfl rfl rfl ⟨rfl, rfl, rfl, rfl, rfl⟩ rfl rfl rfl rfl rfl named Tryz.func3 closed
  (of_decide_eq_true (by kernel_rfl)) wrapper
  (fun os started H enc _ F => by rw [OpenClaim.pre_eq_preRow]; exact lifted os started H enc F)
theorem plain (f : FuncId) (fn : Func) (hf : Tryz.pinned.checked.prog.funcNamed "cubbyhole/cubbyholelaw23.TaskNil" = some f) (hfn : Tryz.pinned.checked.prog.funcs[f]? = some fn) :
  true = Tryz.pinned.checked.prog.looks [] /\ ∀ (j : Nat) t, fn.params[j]? = some t -> Tryz.pinned.checked.prog.wantsStandIn t = false := by
 obtain rfl : f = 3 := Option.some.inj ((show Tryz.prog.funcNamed "cubbyhole/cubbyholelaw23.TaskNil" = some 3 by kernel_rfl).symm.trans hf) |>.symm
 obtain rfl : fn = Tryz.f3 := (Option.some.inj (Tryz.func3.symm.trans hfn)).symm
 refine ⟨by kernel_rfl, fun j t ht => ?_⟩
 have hall : (Tryz.f3.params.toList.all fun t => !(Tryz.prog.wantsStandIn t)) = true := by kernel_rfl
 have := List.all_eq_true.1 hall t (by rw [Array.mem_toList_iff]; exact Array.mem_of_getElem? ht)
 show Tryz.prog.wantsStandIn t = false
 simpa using this
end Go.Proofs.YtnbfgnfpdlelbabGreatDoor
