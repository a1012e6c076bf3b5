/- SessionLong: for all arguments the law returns true, and the arguments are left as they were. Conditions: the listed package variables hold what the program's text lays. -/
import Derived.Test.YtifkhebojenhnabGreatDoorSlLy
import Derived.Test.YtifkhebojenhnabGreatDoorCards
import Derived.Test.YtifkhebojenhnabGreatDoorTie
import Derived.Test.YtifkhebojenhnabGreatDoorSlPi
import Derived.Test.YtifkhebojenhnabGreatDoorSlWi
import Derived.Test.YtifkhebojenhnabGreatDoorSlLa
import Derived.WalkKit
import Derived.ProofKit
import Derived.OpenShut
import Derived.Deep.DeepHandedRow
set_option linter.unusedVariables false
namespace Go.Proofs.YtifkhebojenhnabGreatDoor
open Go Go.Gx Go.Mx Go.Sx Go.ChangeShapes Go.WideShapes Go.ChangeAt Go.RowKit
theorem zlf{hgl:zb}{Gg:Gh}(h:zjt hgl):HOK Tryz.prog hgl Gg (wc (ziV tab) 8 zlv):=zfH (zfI tab xfn) fun B W0 hL args h0 r hr=>by
 cases args with
 |nil=>
  cases hr
  obtain⟨h',hc⟩:=zbb h.a8
  exact zdg hmo hng (zfI tab xfn) hL hc rfl rfl
 |cons=>cases hr
theorem zlg{hgl:zb}{Gg:Gh}(h:zjt hgl):HOK Tryz.prog hgl Gg (wc (wc (ziV tab) 8 zlv) 6 zbM):=zfH (zlf h) fun B W0 hL args h0 r hr=>by exact zeT Tryz.ziP Tryz.ziA hr
theorem zlP{hgl:zb}{Gg:Gh}(h:zjt hgl):HOK Tryz.prog hgl Gg hkA:=zlg h
set_option maxRecDepth 100000 in
theorem zg2(H:Type)(enc:TypeId×Value->H)(W:World)(args:Array Value)(ds gs:List (DataW H))(before:List MemPlace)(base:Nat)
  (hval:∀ (j:Nat) t v,Tryz.f3.params[j]?=some t->args[j]?=some v->Value.okWide Tryz.prog W .any base t v) (hW:DataW.Whole enc Tryz.prog Tryz.f3.params.toList Rows.sessionLongSpec.vars false W args.toList ds gs before) (hL:laidMetH Tryz.prog Rows.sessionLongRow.laid W) (hS:W.ShapedOpen Tryz.prog):
  Calls Tryz.prog 3 args W fun e W'=>∃ v,e=.returned v/\Rows.sessionLongSpec.post enc Tryz.prog Tryz.f3 false true false false W args v W':=by
 have hW0:=hW
 obtain⟨p,q,hA0,hV,rfl,hfz,hnd⟩:=hW
 have hA:DataW.TrodAll enc Tryz.prog W 0 (fun _=>true) true Tryz.f3.params.toList args.toList ds p:=hA0
 rw[Tryz.params3] at hA hval
 obtain⟨v0,vs0,d0,ds0,p0,q0,hargs,rfl,_,r0⟩:=zev hA
 obtain⟨rfl,rfl⟩:=zeu r0
 obtain⟨hgl,Gg,hLd,hal⟩:=zlk hL hS
 obtain⟨ps,hv,_⟩:=(show laidMet Tryz.prog Rows.sessionLongRow.laid W from hL)
 refine(zfN (n:=8000) (f:=3) hmo hng (zlP hal) hLd (ts:=[5]) (by kernel_rfl) hA
  (fun j t v h1 h2=>hval j t v (by simpa using h1) (by simpa using h2)) (za1 hv rfl) (fun b=>hal.eq.elim (fun e=>e ▸ zlR b) (fun e=>e ▸ zlS b))).mono ?_
 rintro e W' ⟨rfl,hg⟩
 exact⟨_,rfl,zgd lo mr full (by kernel_rfl) (tb:=4) (by kernel_rfl) (by kernel_rfl) rfl rfl hW0 hg⟩
theorem reads(os:Os){H:Type}(enc:TypeId×Value->H):∃ places,DataW.whole enc Tryz.prog ((zz os).forCall (fun _ _=>0) ⟨#[],#[Value.int .u8 0],[]⟩).memory Tryz.f3.params.toList Rows.sessionLongSpec.vars false #[Value.int .u8 0].toList 8=some ([.lit (.int .u8 0)],[],places):=
 ⟨[],by kernel_rfl⟩
set_option maxRecDepth 100000 in
theorem lifted(os:Os)(started:os.Started)(H:Type)(enc:TypeId×Value->H)(F:Stop.Interp):
  ReturnsInHanded {} Tryz.checked os 3 .any ((OpenSpec.ofChange Rows.sessionLongSpec).preRow enc Tryz.prog Tryz.f3 Rows.sessionLongRow.domain false Rows.sessionLongRow.laid) (((OpenSpec.ofChange Rows.sessionLongSpec).at F).post enc Tryz.prog Tryz.f3 false true false false):=by
 obtain⟨places,hx⟩:=reads os enc
 refine returnsInHanded_of_row (C:=Tryz.checked) (s:=OpenSpec.ofChange Rows.sessionLongSpec) own started (by kernel_rfl) Tryz.func3
  (witness_row_atRef (enc:=enc) (C:=Tryz.checked) false (zz os) #[Value.int .u8 0] rfl (by kernel_rfl) (by kernel_rfl) (by kernel_rfl)
   (OpenSpec.preRow_of_cond 8 hx (by kernel_rfl) (fun k hk=>by cases hk) (by kernel_rfl) (zg6 os _))) ?_
 intro W base args ds gs before hval hW _ _ _ hL hS _
 exact zg2 H enc W args ds gs before base hval hW hL hS
theorem zlF{a b:Bool}(h:a=true)(k:b=true):(a&&b)=true:=by rw[h,k];rfl
set_option maxRecDepth 100000 in
set_option maxHeartbeats 4000000 in
theorem closed:joinedFacts Tryz.pinned.checked.prog 3 Tryz.f3 (OpenSpec.ofChange Rows.sessionLongSpec).bare Rows.sessionLongRow=true:=by
 unfold joinedFacts
 repeat' (with_reducible refine zlF ?_ ?_)
 all_goals (as_aux_lemma=>kernel_rfl)
set_option maxHeartbeats 4000000 in
theorem wrapper:Func.isWrapper Tryz.pinned.checked.prog Tryz.f3 Rows.sessionLongRow.wrapper Rows.sessionLongRow.mainSum:=by
 unfold Func.isWrapper
 first|(rw[if_pos (by decide +kernel)];kernel_rfl)|(rw[if_neg (by decide +kernel)];exact⟨rfl,rfl⟩)
theorem named:Tryz.pinned.checked.prog.funcNamed Rows.sessionLongRow.func=some 3:=by kernel_rfl
theorem said:Rows.SessionLongSaid:=
 OpenClaim.holds_of_cond 3 Tryz.f3 rfl rfl rfl rfl rfl rfl rfl ⟨rfl,rfl,rfl,rfl,rfl⟩ rfl rfl rfl rfl rfl named Tryz.func3 closed
  (of_decide_eq_true (by kernel_rfl)) wrapper
  (fun os started H enc _ F=>by rw[OpenClaim.pre_eq_preRow];exact lifted os started H enc F)
theorem plain(f:FuncId)(fn:Func)(hf:Tryz.pinned.checked.prog.funcNamed "cubbyhole/cubbyholelaw22.SessionLong" = some f) (hfn:Tryz.pinned.checked.prog.funcs[f]?=some fn):
  true=Tryz.pinned.checked.prog.looks []/\∀ (j:Nat) t,fn.params[j]?=some t->Tryz.pinned.checked.prog.wantsStandIn t=false:=by
 obtain rfl:f=3:=Option.some.inj ((show Tryz.prog.funcNamed "cubbyhole/cubbyholelaw22.SessionLong" = some 3 by kernel_rfl).symm.trans hf) |>.symm
 obtain rfl:fn=Tryz.f3:=(Option.some.inj (Tryz.func3.symm.trans hfn)).symm
 refine⟨by kernel_rfl,fun j t ht=>?_⟩
 have hall:(Tryz.f3.params.toList.all fun t=>!(Tryz.prog.wantsStandIn t))=true:=by kernel_rfl
 have:=List.all_eq_true.1 hall t (by rw[Array.mem_toList_iff];exact Array.mem_of_getElem? ht)
 show Tryz.prog.wantsStandIn t=false
 simpa using this
end Go.Proofs.YtifkhebojenhnabGreatDoor
