/- ScriptReports: for all arguments the law returns true, and the arguments are left as they were. Conditions: the listed package variables hold what the program's text lays. -/
import Derived.Test.YtjojhgpaaocnoaaGreatDoorSqLy
import Derived.Test.YtjojhgpaaocnoaaGreatDoorCards
import Derived.Test.YtjojhgpaaocnoaaGreatDoorSqTi
import Derived.Test.YtjojhgpaaocnoaaGreatDoorSqPi
import Derived.Test.YtjojhgpaaocnoaaGreatDoorSqWi
import Derived.Test.YtjojhgpaaocnoaaGreatDoorSqLa
import Derived.WalkKit
import Derived.ProofKit
import Derived.OpenShut
import Derived.Deep.DeepHandedRow
set_option linter.unusedVariables false
namespace Go.Proofs.YtjojhgpaaocnoaaGreatDoor
open Go.Proofs.Model Go Go.Gx Go.Mx Go.Sx Go.ChangeShapes Go.WideShapes Go.ChangeAt Go.RowKit
theorem rgl{hgl:za}(h:zi8 hgl)(E:List Blk):RGl Tryz.prog glA ⟨hgl++E,PhA (hgl++E),[],[]⟩:=zpK h.gl (of_decide_eq_true (by kernel_rfl)) E
theorem zqN{hgl:za}{Gg:Gh}(h:zi8 hgl):HOK Tryz.prog hgl Gg (zl (zgd tab) 4 zlz):=zam (zjO tab xfn) fun B W0 hL args h0 r hr=>by
 cases args with
 |nil=>
  cases hr
  obtain⟨h',hc⟩:=ziK h.a4
  exact zgl hmo hng (zjO tab xfn) hL hc rfl rfl
 |cons=>cases hr
theorem zqO{hgl:za}{Gg:Gh}(h:zi8 hgl):HOK Tryz.prog hgl Gg (zl (zl (zgd tab) 4 zlz) 7 wF):=zam (zqN h) fun B W0 hL args h0 r hr=>by obtain⟨lo,hi,hiv⟩:=h.iv;exact ziV Tryz.zn0 (hL.iv (of_decide_eq_true (by kernel_rfl)) hiv) hr
theorem zqP{hgl:za}{Gg:Gh}(h:zi8 hgl):HOK Tryz.prog hgl Gg (zl (zl (zl (zgd tab) 4 zlz) 7 wF) 11 (wT 25)):=zam (zqO h) fun B W0 hL args h0 r hr=>by obtain⟨lo,hi,hiv⟩:=h.iv;exact zh9 Tryz.zpp (hL.iv (of_decide_eq_true (by kernel_rfl)) hiv) hr
theorem zqQ{hgl:za}{Gg:Gh}(h:zi8 hgl):HOK Tryz.prog hgl Gg (zl (zl (zl (zl (zgd tab) 4 zlz) 7 wF) 11 (wT 25)) 30 (za8 9)):=zam (zqP h) fun B W0 hL args h0 r hr=>by obtain⟨lo,hi,hiv⟩:=h.iv;exact zk4 Tryz.zn1 (by kernel_rfl) (hL.iv (of_decide_eq_true (by kernel_rfl)) hiv) hr
theorem zqR{hgl:za}{Gg:Gh}(h:zi8 hgl):HOK Tryz.prog hgl Gg (zl (zl (zl (zl (zl (zgd tab) 4 zlz) 7 wF) 11 (wT 25)) 30 (za8 9)) 42 zbO):=zam (zqQ h) fun B W0 hL args h0 r hr=>by obtain⟨lo,hi,hiv⟩:=h.iv;exact zjR Tryz.zn3 (hL.iv (of_decide_eq_true (by kernel_rfl)) hiv) hr
theorem zqS{hgl:za}{Gg:Gh}(h:zi8 hgl):HOK Tryz.prog hgl Gg (zl (zl (zl (zl (zl (zl (zgd tab) 4 zlz) 7 wF) 11 (wT 25)) 30 (za8 9)) 42 zbO) 138 zcZ):=zam (zqR h) fun B W0 hL args h0 r hr=>by exact zkr Tryz.zlY (hL.opq (of_decide_eq_true (by kernel_rfl)) h.e1) (hL.opq (of_decide_eq_true (by kernel_rfl)) h.e2) hr
theorem zqT{hgl:za}{Gg:Gh}(h:zi8 hgl):HOK Tryz.prog hgl Gg (zl (zl (zl (zl (zl (zl (zl (zgd tab) 4 zlz) 7 wF) 11 (wT 25)) 30 (za8 9)) 42 zbO) 138 zcZ) 354 zin):=zam (zqS h) fun B W0 hL args h0 r hr=>by exact zlU Tryz.zn2 Tryz.zo7 hr
theorem zrG{hgl:za}{Gg:Gh}(h:zi8 hgl):HOK Tryz.prog hgl Gg hkA:=zqT h
set_option maxRecDepth 100000 in
theorem zlP(H:Type)(enc:TypeId×Value->H)(W:World)(args:Array Value)(ds gs:List (DataW H))(before:List MemPlace)(base:Nat)
  (hval:∀ (j:Nat) t v,Tryz.f3.params[j]?=some t->args[j]?=some v->Value.okWide Tryz.prog W .any base t v) (hW:DataW.Whole enc Tryz.prog Tryz.f3.params.toList Rows.scriptReportsSpec.vars false W args.toList ds gs before) (hwt0:(DataW.weightsEach Tryz.prog (Tryz.f3.params.toList++(OpenSpec.ofChange Rows.scriptReportsSpec).bare.plain.varTypes Tryz.prog) (ds++gs)).all (· <= reachBytes)=true) (hL:laidMetH Tryz.prog Rows.scriptReportsRow.laid W) (hS:W.ShapedOpen Tryz.prog):
  Calls Tryz.prog 3 args W fun e W'=>∃ v,e=.returned v/\Rows.scriptReportsSpec.post enc Tryz.prog Tryz.f3 false true false false W args v W':=by
 have hW0:=hW
 obtain⟨p,q,hA0,hV,rfl,hfz,hnd⟩:=hW
 have hA:DataW.TrodAll enc Tryz.prog W 0 (fun _=>true) true Tryz.f3.params.toList args.toList ds p:=hA0
 rw[Tryz.params3] at hA hval hwt0
 obtain⟨v0,vs0,d0,ds0,p0,q0,hargs,rfl,_,r0⟩:=zeS hA
 obtain⟨v1,vs1,d1,ds1,p1,q1,rfl,rfl,_,r1⟩:=zeS r0
 obtain⟨rfl,rfl⟩:=zh4 r1
 obtain⟨hgl,Gg,hLd,hal⟩:=zq0 hL hS
 obtain⟨ps,hv,_⟩:=(show laidMet Tryz.prog Rows.scriptReportsRow.laid W from hL)
 refine(zlX (gl:=glA) (ct:=fun N=>zi0 (zZ N)) (n:=1500) (pl:=z6) (us:=[(.sl (.sl .u8)),(.sl (.int .u16))]) (F:=fun N x=>zy N x.1 x.2.1) hmo hng (zrG hal) hLd (rgl hal) wW kh rfl ki (ts:=[22,23]) (by kernel_rfl) hA
  (fun j t v h1 h2=>hval j t v (by simpa using h1) (by simpa using h2)) (List.all_eq_true.2 fun n hn=>List.all_eq_true.1 hwt0 n (znz hn)) (zdI hv rfl) law).mono ?_
 rintro e W' ⟨rfl,hg⟩
 exact⟨_,rfl,zku lo mr full (by kernel_rfl) (tb:=4) (by kernel_rfl) (by kernel_rfl) rfl rfl hW0 hg⟩
theorem reads(os:Os){H:Type}(enc:TypeId×Value->H):∃ places,DataW.whole enc Tryz.prog ((qd os).forCall (fun _ _=>0) ⟨#[],#[Value.slice none 0 0,Value.slice none 0 0],[]⟩).memory Tryz.f3.params.toList Rows.scriptReportsSpec.vars false #[Value.slice none 0 0,Value.slice none 0 0].toList 8=some ([.nil,.nil],[],places):=
 ⟨[],by kernel_rfl⟩
set_option maxRecDepth 100000 in
theorem lifted(os:Os)(started:os.Started)(H:Type)(enc:TypeId×Value->H)(F:Stop.Interp):
  ReturnsInHanded {} Tryz.checked os 3 .any ((OpenSpec.ofChange Rows.scriptReportsSpec).preRow enc Tryz.prog Tryz.f3 Rows.scriptReportsRow.domain false Rows.scriptReportsRow.laid) (((OpenSpec.ofChange Rows.scriptReportsSpec).at F).post enc Tryz.prog Tryz.f3 false true false false):=by
 obtain⟨places,hx⟩:=reads os enc
 refine returnsInHanded_of_row (C:=Tryz.checked) (s:=OpenSpec.ofChange Rows.scriptReportsSpec) own started (by kernel_rfl) Tryz.func3
  (witness_row_atRef (enc:=enc) (C:=Tryz.checked) false (qd os) #[Value.slice none 0 0,Value.slice none 0 0] rfl (by kernel_rfl) (by kernel_rfl) (by kernel_rfl)
   (OpenSpec.preRow_of_cond 8 hx (by kernel_rfl) (fun k hk=>by cases hk) (by kernel_rfl) (zlW os _))) ?_
 intro W base args ds gs before hval hW _ _ hwt0 hL hS _
 exact zlP H enc W args ds gs before base hval hW hwt0 hL hS
theorem zru{a b:Bool}(h:a=true)(k:b=true):(a&&b)=true:=by rw[h,k];rfl
set_option maxRecDepth 100000 in
set_option maxHeartbeats 4000000 in
theorem closed:joinedFacts Tryz.pinned.checked.prog 3 Tryz.f3 (OpenSpec.ofChange Rows.scriptReportsSpec).bare Rows.scriptReportsRow=true:=by
 unfold joinedFacts
 repeat' (with_reducible refine zru ?_ ?_)
 all_goals (as_aux_lemma=>kernel_rfl)
set_option maxHeartbeats 4000000 in
theorem wrapper:Func.isWrapper Tryz.pinned.checked.prog Tryz.f3 Rows.scriptReportsRow.wrapper Rows.scriptReportsRow.mainSum:=by
 unfold Func.isWrapper
 first|(rw[if_pos (by decide +kernel)];kernel_rfl)|(rw[if_neg (by decide +kernel)];exact⟨rfl,rfl⟩)
theorem named:Tryz.pinned.checked.prog.funcNamed Rows.scriptReportsRow.func=some 3:=by kernel_rfl
theorem said:Rows.ScriptReportsSaid:=
 OpenClaim.holds_of_cond 3 Tryz.f3 rfl rfl rfl rfl rfl rfl rfl ⟨rfl,rfl,rfl,rfl,rfl⟩ rfl rfl rfl rfl rfl named Tryz.func3 closed
  (of_decide_eq_true (by kernel_rfl)) wrapper
  (fun os started H enc _ F=>by rw[OpenClaim.pre_eq_preRow];exact lifted os started H enc F)
theorem plain(f:FuncId)(fn:Func)(hf:Tryz.pinned.checked.prog.funcNamed "cubbyhole/cubbyholelaw26.ScriptReports" = some f) (hfn:Tryz.pinned.checked.prog.funcs[f]?=some fn):
  true=Tryz.pinned.checked.prog.looks []/\∀ (j:Nat) t,fn.params[j]?=some t->Tryz.pinned.checked.prog.wantsStandIn t=false:=by
 obtain rfl:f=3:=Option.some.inj ((show Tryz.prog.funcNamed "cubbyhole/cubbyholelaw26.ScriptReports" = some 3 by kernel_rfl).symm.trans hf) |>.symm
 obtain rfl:fn=Tryz.f3:=(Option.some.inj (Tryz.func3.symm.trans hfn)).symm
 refine⟨by kernel_rfl,fun j t ht=>?_⟩
 have hall:(Tryz.f3.params.toList.all fun t=>!(Tryz.prog.wantsStandIn t))=true:=by kernel_rfl
 have:=List.all_eq_true.1 hall t (by rw[Array.mem_toList_iff];exact Array.mem_of_getElem? ht)
 show Tryz.prog.wantsStandIn t=false
 simpa using this
end Go.Proofs.YtjojhgpaaocnoaaGreatDoor
