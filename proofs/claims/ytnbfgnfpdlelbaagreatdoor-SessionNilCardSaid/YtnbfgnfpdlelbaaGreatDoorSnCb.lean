/- SessionNil: for all arguments the law returns true, and the arguments are left as they were. Conditions: the listed package variables hold what the program's text lays. -/
import Derived.Test.YtnbfgnfpdlelbaaGreatDoorCards
import Derived.Test.YtnbfgnfpdlelbaaGreatDoorTie
import Derived.Test.YtnbfgnfpdlelbaaGreatDoorSnPi
import Derived.Test.YtnbfgnfpdlelbaaGreatDoorSnWi
import Derived.Test.YtnbfgnfpdlelbaaGreatDoorSnLa
import Derived.WalkKit
import Derived.ProofKit
import Derived.OpenShut
import Derived.Deep.DeepHandedRow
set_option linter.unusedVariables false
namespace Go.Proofs.YtnbfgnfpdlelbaaGreatDoor
open Go Go.Gx Go.Mx Go.Sx Go.ChangeShapes Go.WideShapes Go.ChangeAt Go.RowKit
theorem rgl {hgl : za} (h : zhd hgl) (E : List Blk) : RGl Tryz.prog glA ⟨hgl ++ E, PhA (hgl ++ E), [], []⟩ := ziT h.gl (of_decide_eq_true (by kernel_rfl)) E
theorem zju {hgl : za} {Gg : Gh} (h : zhd hgl) : HOK Tryz.prog hgl Gg (z4 (zeU tab) 4 zhr) := zdC (zbC tab xfn) fun B W0 hL args h0 r hr => by
 cases args with
 | nil =>
  cases hr
  obtain ⟨h', hc⟩ := zeM h.a4
  exact zde hmo hng (zbC tab xfn) hL hc rfl rfl
 | cons => cases hr
theorem zjw {hgl : za} {Gg : Gh} (h : zhd hgl) : HOK Tryz.prog hgl Gg (z4 (z4 (zeU tab) 4 zhr) 12 (ji za0 14 zcD zcH)) := zdC (zju h) fun B W0 hL args h0 r hr => zaX hmo hng (zbC tab xfn) hL h.c12 rfl (by kernel_rfl) (by kernel_rfl) h.len hr
theorem zjn {hgl : za} {Gg : Gh} (h : zhd hgl) : HOK Tryz.prog hgl Gg (z4 (z4 (z4 (zeU tab) 4 zhr) 12 (ji za0 14 zcD zcH)) 14 (ji zcj 14 zd6 zdT)) := zdC (zjw h) fun B W0 hL args h0 r hr => zaX hmo hng (zbC tab xfn) hL h.c14 rfl (by kernel_rfl) (by kernel_rfl) h.len hr
theorem zjQ {hgl : za} {Gg : Gh} (h : zhd hgl) : HOK Tryz.prog hgl Gg hkA := zjn h
set_option maxRecDepth 100000 in
theorem zgq (H : Type) (enc : TypeId × Value -> H) (W : World) (args : Array Value) (ds gs : List (DataW H)) (before : List MemPlace) (base : Nat)
  (hval : ∀ (j : Nat) t v, Tryz.f3.params[j]? = some t -> args[j]? = some v -> Value.okWide Tryz.prog W .any base t v) (hW : DataW.Whole enc Tryz.prog Tryz.f3.params.toList Rows.sessionNilSpec.vars false W args.toList ds gs before) (hL : laidMetH Tryz.prog Rows.sessionNilRow.laid W) (hS : W.ShapedOpen Tryz.prog) :
  Calls Tryz.prog 3 args W fun e W' => ∃ v, e = .returned v /\ Rows.sessionNilSpec.post enc Tryz.prog Tryz.f3 false true false false W args v W' := by
 have hW0 := hW
 obtain ⟨p, q, hA0, hV, rfl, hfz, hnd⟩ := hW
 have hA : DataW.TrodAll enc Tryz.prog W 0 (fun _ => true) true Tryz.f3.params.toList args.toList ds p := hA0
 rw [Tryz.params3] at hA hval
 obtain ⟨v0, vs0, d0, ds0, p0, q0, hargs, rfl, _, r0⟩ := zbc hA
 obtain ⟨v1, vs1, d1, ds1, p1, q1, rfl, rfl, _, r1⟩ := zbc r0
 obtain ⟨rfl, rfl⟩ := zd4 r1
 obtain ⟨hgl, Gg, hLd, hal⟩ := zjz hL hS
 obtain ⟨ps, hv, _⟩ := (show laidMet Tryz.prog Rows.sessionNilRow.laid W from hL)
 refine (zgy (gl := glA) (ct := fun N => zgM (zG N)) (n := 1500) (pl := zC) (us := [(.sl .u8), (.int .i64)]) (F := fun N x => zA N x.1 x.2.1) hmo hng (zjQ hal) hLd (rgl hal) jB jX rfl jW (ts := [22, 3]) (by kernel_rfl) hA
  (fun j t v h1 h2 => hval j t v (by simpa using h1) (by simpa using h2)) (zaP hv rfl) law).mono ?_
 rintro e W' ⟨rfl, hg⟩
 exact ⟨_, rfl, zf4 lo mr full (by kernel_rfl) (tb := 4) (by kernel_rfl) (by kernel_rfl) rfl rfl hW0 hg⟩
theorem reads (os : Os) {H : Type} (enc : TypeId × Value -> H) : ∃ places, DataW.whole enc Tryz.prog ((zt os).forCall (fun _ _ => 0) ⟨#[], #[Value.slice none 0 0, Value.int .i64 0], []⟩).memory Tryz.f3.params.toList Rows.sessionNilSpec.vars false #[Value.slice none 0 0, Value.int .i64 0].toList 8 = some ([.nil, .lit (.int .i64 0)], [], places) :=
 ⟨[], by kernel_rfl⟩
set_option maxRecDepth 100000 in
theorem lifted (os : Os) (started : os.Started) (H : Type) (enc : TypeId × Value -> H) (F : Stop.Interp) :
  ReturnsInHanded {} Tryz.checked os 3 .any ((OpenSpec.ofChange Rows.sessionNilSpec).preRow enc Tryz.prog Tryz.f3 Rows.sessionNilRow.domain false Rows.sessionNilRow.laid) (((OpenSpec.ofChange Rows.sessionNilSpec).at F).post enc Tryz.prog Tryz.f3 false true false false) := by
 obtain ⟨places, hx⟩ := reads os enc
 refine returnsInHanded_of_row (C := Tryz.checked) (s := OpenSpec.ofChange Rows.sessionNilSpec) own started (by kernel_rfl) Tryz.func3
  (witness_row_atRef (enc := enc) (C := Tryz.checked) false (zt os) #[Value.slice none 0 0, Value.int .i64 0] rfl (by kernel_rfl) (by kernel_rfl) (by kernel_rfl)
   (OpenSpec.preRow_of_cond 8 hx (by kernel_rfl) (fun k hk => by cases hk) (by kernel_rfl) (zgw os _))) ?_
 intro W base args ds gs before hval hW _ _ _ hL hS _
 exact zgq H enc W args ds gs before base hval hW hL hS
theorem zjN {a b : Bool} (h : a = true) (k : b = true) : (a && b) = true := by rw [h, k]; rfl
set_option maxRecDepth 100000 in
set_option maxHeartbeats 4000000 in
theorem closed : joinedFacts Tryz.pinned.checked.prog 3 Tryz.f3 (OpenSpec.ofChange Rows.sessionNilSpec).bare Rows.sessionNilRow = true := by
 unfold joinedFacts
 repeat' (with_reducible refine zjN ?_ ?_)
 all_goals (as_aux_lemma => kernel_rfl)
set_option maxHeartbeats 4000000 in
theorem wrapper : Func.isWrapper Tryz.pinned.checked.prog Tryz.f3 Rows.sessionNilRow.wrapper Rows.sessionNilRow.mainSum := by
 unfold Func.isWrapper
 first | (rw [if_pos (by decide +kernel)]; kernel_rfl) | (rw [if_neg (by decide +kernel)]; exact ⟨rfl, rfl⟩)
theorem named : Tryz.pinned.checked.prog.funcNamed Rows.sessionNilRow.func = some 3 := by kernel_rfl
theorem said : Rows.SessionNilSaid :=
 OpenClaim.holds_of_cond 3 Tryz.f3 rfl rfl rfl rfl rfl rfl rfl ⟨rfl, rfl, rfl, rfl, rfl⟩ rfl rfl rfl rfl rfl named Tryz.func3 closed
  (of_decide_eq_true (by kernel_rfl)) wrapper
  (fun os started H enc _ F => by rw [OpenClaim.pre_eq_preRow]; exact lifted os started H enc F)
theorem plain (f : FuncId) (fn : Func) (hf : Tryz.pinned.checked.prog.funcNamed "cubbyhole/cubbyholelaw22.SessionNil" = some f) (hfn : Tryz.pinned.checked.prog.funcs[f]? = some fn) :
  true = Tryz.pinned.checked.prog.looks [] /\ ∀ (j : Nat) t, fn.params[j]? = some t -> Tryz.pinned.checked.prog.wantsStandIn t = false := by
 obtain rfl : f = 3 := Option.some.inj ((show Tryz.prog.funcNamed "cubbyhole/cubbyholelaw22.SessionNil" = some 3 by kernel_rfl).symm.trans hf) |>.symm
 obtain rfl : fn = Tryz.f3 := (Option.some.inj (Tryz.func3.symm.trans hfn)).symm
 refine ⟨by kernel_rfl, fun j t ht => ?_⟩
 have hall : (Tryz.f3.params.toList.all fun t => !(Tryz.prog.wantsStandIn t)) = true := by kernel_rfl
 have := List.all_eq_true.1 hall t (by rw [Array.mem_toList_iff]; exact Array.mem_of_getElem? ht)
 show Tryz.prog.wantsStandIn t = false
 simpa using this
end Go.Proofs.YtnbfgnfpdlelbaaGreatDoor
