/- ClientPrints: for all arguments the law returns true, and the arguments are left as they were. Conditions: the listed package variables hold what the program's text lays. -/
import Derived.Test.YtlfojfedfhpoiaaGreatDoorKpLy
import Derived.Test.YtlfojfedfhpoiaaGreatDoorCards
import Derived.Test.YtlfojfedfhpoiaaGreatDoorTie
import Derived.Test.YtlfojfedfhpoiaaGreatDoorKpPi
import Derived.Test.YtlfojfedfhpoiaaGreatDoorKpWi
import Derived.Test.YtlfojfedfhpoiaaGreatDoorKpLa
import Derived.WalkKit
import Derived.ProofKit
import Derived.OpenShut
import Derived.Deep.DeepHandedRow
set_option linter.unusedVariables false
namespace Go.Proofs.YtlfojfedfhpoiaaGreatDoor
open Go.Proofs.Model Go Go.Gx Go.Mx Go.Sx Go.ChangeShapes Go.WideShapes Go.ChangeAt Go.RowKit
theorem rgl{hgl:zd}(h:zob hgl)(E:List Blk):RGl Tryz.prog glA ⟨hgl++E,PhA (hgl++E),[],[]⟩:=zsh h.gl (of_decide_eq_true (by kernel_rfl)) E
theorem ztn{hgl:zd}{Gg:Gh}(h:zob hgl):HOK Tryz.prog hgl Gg (z6 (zlK tab) 9 zpx):=zeT (zmr tab xfn) fun B W0 hL args h0 r hr=>by
 cases args with
 |nil=>
  cases hr
  obtain⟨h',hc⟩:=zlm h.a9
  exact ziW hmo hng (zmr tab xfn) hL hc rfl rfl
 |cons=>cases hr
theorem zto{hgl:zd}{Gg:Gh}(h:zob hgl):HOK Tryz.prog hgl Gg (z6 (z6 (zlK tab) 9 zpx) 28 zgJ):=zeT (ztn h) fun B W0 hL args h0 r hr=>by exact zou Tryz.zqJ Tryz.zrJ hr
theorem ztp{hgl:zd}{Gg:Gh}(h:zob hgl):HOK Tryz.prog hgl Gg (z6 (z6 (z6 (zlK tab) 9 zpx) 28 zgJ) 178 zdE):=zeT (zto h) fun B W0 hL args h0 r hr=>by obtain⟨lo,hi,hiv⟩:=h.iv;exact zmv Tryz.zqK (hL.iv (of_decide_eq_true (by kernel_rfl)) hiv) hr
theorem ztq{hgl:zd}{Gg:Gh}(h:zob hgl):HOK Tryz.prog hgl Gg (z6 (z6 (z6 (z6 (zlK tab) 9 zpx) 28 zgJ) 178 zdE) 188 (zfg 9)):=zeT (ztp h) fun B W0 hL args h0 r hr=>by obtain⟨lo,hi,hiv⟩:=h.iv;exact znM Tryz.zqI (by kernel_rfl) (hL.iv (of_decide_eq_true (by kernel_rfl)) hiv) hr
theorem ztr{hgl:zd}{Gg:Gh}(h:zob hgl):HOK Tryz.prog hgl Gg (z6 (z6 (z6 (z6 (z6 (zlK tab) 9 zpx) 28 zgJ) 178 zdE) 188 (zfg 9)) 204 zga):=zeT (ztq h) fun B W0 hL args h0 r hr=>by exact znb Tryz.zoz (hL.opq (of_decide_eq_true (by kernel_rfl)) h.e1) (hL.opq (of_decide_eq_true (by kernel_rfl)) h.e2) hr
theorem zvs{hgl:zd}{Gg:Gh}(h:zob hgl):HOK Tryz.prog hgl Gg hkA:=ztr h
set_option maxRecDepth 100000 in
theorem zoq(H:Type)(enc:TypeId×Value->H)(W:World)(args:Array Value)(ds gs:List (DataW H))(before:List MemPlace)(base:Nat)
  (hval:∀ (j:Nat) t v,Tryz.f3.params[j]?=some t->args[j]?=some v->Value.okWide Tryz.prog W .any base t v) (hW:DataW.Whole enc Tryz.prog Tryz.f3.params.toList Rows.clientPrintsSpec.vars false W args.toList ds gs before) (hL:laidMetH Tryz.prog Rows.clientPrintsRow.laid W) (hS:W.ShapedOpen Tryz.prog):
  Calls Tryz.prog 3 args W fun e W'=>∃ v,e=.returned v/\Rows.clientPrintsSpec.post enc Tryz.prog Tryz.f3 false true false false W args v W':=by
 have hW0:=hW
 obtain⟨p,q,hA0,hV,rfl,hfz,hnd⟩:=hW
 have hA:DataW.TrodAll enc Tryz.prog W 0 (fun _=>true) true Tryz.f3.params.toList args.toList ds p:=hA0
 rw[Tryz.params3] at hA hval
 obtain⟨v0,vs0,d0,ds0,p0,q0,hargs,rfl,_,r0⟩:=zkH hA
 obtain⟨rfl,rfl⟩:=zkG r0
 obtain⟨hgl,Gg,hLd,hal⟩:=ztx hL hS
 obtain⟨ps,hv,_⟩:=(show laidMet Tryz.prog Rows.clientPrintsRow.laid W from hL)
 refine(zoy (gl:=glA) (ct:=fun N=>zet (qE N)) (n:=1500) (pl:=qF) (us:=[(.pair .str (.pair (.int .i64) (.pair .str (.pair (.sl (.pair (.int .u32) (.int .u32))) (.pair (.int .i64) (.pair (.int .i64) (.pair .bool (.pair .u8 (.sl .u8)))))))))]) (F:=fun N x=>zX N x.1) hmo hng (zvs hal) hLd (rgl hal) zam zaO rfl zaP (ts:=[26]) (by kernel_rfl) hA
  (fun j t v h1 h2=>hval j t v (by simpa using h1) (by simpa using h2)) (zf0 hv rfl) law).mono ?_
 rintro e W' ⟨rfl,hg⟩
 exact⟨_,rfl,znd lo mr full (by kernel_rfl) (tb:=4) (by kernel_rfl) (by kernel_rfl) rfl rfl hW0 hg⟩
theorem reads(os:Os){H:Type}(enc:TypeId×Value->H):∃ places,DataW.whole enc Tryz.prog ((jz os).forCall (fun _ _=>0) ⟨#[],#[Value.agg #[Value.string ⟨([]:List UInt8).toArray⟩,Value.int .i64 0,Value.string ⟨([]:List UInt8).toArray⟩,Value.slice none 0 0,Value.int .i64 0,Value.int .i64 0,Value.bool false,Value.int .u8 0,Value.slice none 0 0]],[]⟩).memory Tryz.f3.params.toList Rows.clientPrintsSpec.vars false #[Value.agg #[Value.string ⟨([]:List UInt8).toArray⟩,Value.int .i64 0,Value.string ⟨([]:List UInt8).toArray⟩,Value.slice none 0 0,Value.int .i64 0,Value.int .i64 0,Value.bool false,Value.int .u8 0,Value.slice none 0 0]].toList 8=some ([.agg [.lit (.string []),.lit (.int .i64 0),.lit (.string []),.nil,.lit (.int .i64 0),.lit (.int .i64 0),.lit (.bool false),.lit (.int .u8 0),.nil]],[],places):=
 ⟨[],by kernel_rfl⟩
set_option maxRecDepth 100000 in
theorem lifted(os:Os)(started:os.Started)(H:Type)(enc:TypeId×Value->H)(F:Stop.Interp):
  ReturnsInHanded {} Tryz.checked os 3 .any ((OpenSpec.ofChange Rows.clientPrintsSpec).preRow enc Tryz.prog Tryz.f3 Rows.clientPrintsRow.domain false Rows.clientPrintsRow.laid) (((OpenSpec.ofChange Rows.clientPrintsSpec).at F).post enc Tryz.prog Tryz.f3 false true false false):=by
 obtain⟨places,hx⟩:=reads os enc
 refine returnsInHanded_of_row (C:=Tryz.checked) (s:=OpenSpec.ofChange Rows.clientPrintsSpec) own started (by kernel_rfl) Tryz.func3
  (witness_row_atRef (enc:=enc) (C:=Tryz.checked) false (jz os) #[Value.agg #[Value.string ⟨([]:List UInt8).toArray⟩,Value.int .i64 0,Value.string ⟨([]:List UInt8).toArray⟩,Value.slice none 0 0,Value.int .i64 0,Value.int .i64 0,Value.bool false,Value.int .u8 0,Value.slice none 0 0]] rfl (by kernel_rfl) (by kernel_rfl) (by kernel_rfl)
   (OpenSpec.preRow_of_cond 8 hx (by kernel_rfl) (fun k hk=>by cases hk) (by kernel_rfl) (zox os _))) ?_
 intro W base args ds gs before hval hW _ _ _ hL hS _
 exact zoq H enc W args ds gs before base hval hW hL hS
theorem zu1{a b:Bool}(h:a=true)(k:b=true):(a&&b)=true:=by rw[h,k];rfl
set_option maxRecDepth 100000 in
set_option maxHeartbeats 4000000 in
theorem closed:joinedFacts Tryz.pinned.checked.prog 3 Tryz.f3 (OpenSpec.ofChange Rows.clientPrintsSpec).bare Rows.clientPrintsRow=true:=by
 unfold joinedFacts
 repeat' (with_reducible refine zu1 ?_ ?_)
 all_goals (as_aux_lemma=>kernel_rfl)
set_option maxHeartbeats 4000000 in
theorem wrapper:Func.isWrapper Tryz.pinned.checked.prog Tryz.f3 Rows.clientPrintsRow.wrapper Rows.clientPrintsRow.mainSum:=by
 unfold Func.isWrapper
 first|(rw[if_pos (by decide +kernel)];kernel_rfl)|(rw[if_neg (by decide +kernel)];exact⟨rfl,rfl⟩)
theorem named:Tryz.pinned.checked.prog.funcNamed Rows.clientPrintsRow.func=some 3:=by kernel_rfl
theorem said:Rows.ClientPrintsSaid:=
 OpenClaim.holds_of_cond 3 Tryz.f3 rfl rfl rfl rfl rfl rfl rfl ⟨rfl,rfl,rfl,rfl,rfl⟩ rfl rfl rfl rfl rfl named Tryz.func3 closed
  (of_decide_eq_true (by kernel_rfl)) wrapper
  (fun os started H enc _ F=>by rw[OpenClaim.pre_eq_preRow];exact lifted os started H enc F)
theorem plain(f:FuncId)(fn:Func)(hf:Tryz.pinned.checked.prog.funcNamed "cubbyhole/cubbyholelaw08.ClientPrints" = some f) (hfn:Tryz.pinned.checked.prog.funcs[f]?=some fn):
  true=Tryz.pinned.checked.prog.looks []/\∀ (j:Nat) t,fn.params[j]?=some t->Tryz.pinned.checked.prog.wantsStandIn t=false:=by
 obtain rfl:f=3:=Option.some.inj ((show Tryz.prog.funcNamed "cubbyhole/cubbyholelaw08.ClientPrints" = some 3 by kernel_rfl).symm.trans hf) |>.symm
 obtain rfl:fn=Tryz.f3:=(Option.some.inj (Tryz.func3.symm.trans hfn)).symm
 refine⟨by kernel_rfl,fun j t ht=>?_⟩
 have hall:(Tryz.f3.params.toList.all fun t=>!(Tryz.prog.wantsStandIn t))=true:=by kernel_rfl
 have:=List.all_eq_true.1 hall t (by rw[Array.mem_toList_iff];exact Array.mem_of_getElem? ht)
 show Tryz.prog.wantsStandIn t=false
 simpa using this
theorem clientPrints_holds:Rows.ClientPrintsCardSaid:=
 Claim7.holds_tied_plain_at .later [] _ _ _ _ said (fun _ h=>by cases h) (by kernel_rfl) (fun _ h=>by cases h) clientPrints_row_tie rfl ⟨rfl,rfl⟩ (by kernel_rfl) rfl plain (by kernel_rfl)
#print axioms clientPrints_holds
end Go.Proofs.YtlfojfedfhpoiaaGreatDoor
