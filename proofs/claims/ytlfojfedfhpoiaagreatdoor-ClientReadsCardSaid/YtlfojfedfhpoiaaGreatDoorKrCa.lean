/- ClientReads: for all arguments the law returns true, and the arguments are left as they were. Conditions: the listed package variables hold what the program's text lays. -/
import Derived.Test.YtlfojfedfhpoiaaGreatDoorKrLy
import Derived.Test.YtlfojfedfhpoiaaGreatDoorCards
import Derived.Test.YtlfojfedfhpoiaaGreatDoorTie
import Derived.Test.YtlfojfedfhpoiaaGreatDoorKrPi
import Derived.Test.YtlfojfedfhpoiaaGreatDoorKrWi
import Derived.Test.YtlfojfedfhpoiaaGreatDoorKrLa
import Derived.WalkKit
import Derived.ProofKit
import Derived.OpenShut
import Derived.Deep.DeepHandedRow
set_option linter.unusedVariables false
namespace Go.Proofs.YtlfojfedfhpoiaaGreatDoor
open Go.Proofs.Model Go Go.Gx Go.Mx Go.Sx Go.ChangeShapes Go.WideShapes Go.ChangeAt Go.RowKit
theorem rgl{hgl:zf}(h:zqV hgl)(E:List Blk):RGl Tryz.prog glA ⟨hgl++E,PhA (hgl++E),[],[]⟩:=zvV h.gl (of_decide_eq_true (by kernel_rfl)) E
theorem zw8{hgl:zf}{Gg:Gh}(h:zqV hgl):HOK Tryz.prog hgl Gg (qy (zof tab) 9 zsu):=zgY (zo4 tab xfn) fun B W0 hL args h0 r hr=>by
 cases args with
 |nil=>
  cases hr
  obtain⟨h',hc⟩:=znT h.a9
  exact zln hmo hng (zo4 tab xfn) hL hc rfl rfl
 |cons=>cases hr
theorem zw9{hgl:zf}{Gg:Gh}(h:zqV hgl):HOK Tryz.prog hgl Gg (qy (qy (zof tab) 9 zsu) 28 zi3):=zgY (zw8 h) fun B W0 hL args h0 r hr=>by exact zrk Tryz.zt1 Tryz.zvf hr
theorem zxa{hgl:zf}{Gg:Gh}(h:zqV hgl):HOK Tryz.prog hgl Gg (qy (qy (qy (zof tab) 9 zsu) 28 zi3) 178 zfM):=zgY (zw9 h) fun B W0 hL args h0 r hr=>by obtain⟨lo,hi,hiv⟩:=h.iv;exact zo8 Tryz.zt2 (hL.iv (of_decide_eq_true (by kernel_rfl)) hiv) hr
theorem zxb{hgl:zf}{Gg:Gh}(h:zqV hgl):HOK Tryz.prog hgl Gg (qy (qy (qy (qy (zof tab) 9 zsu) 28 zi3) 178 zfM) 188 (zhp 9)):=zgY (zxa h) fun B W0 hL args h0 r hr=>by obtain⟨lo,hi,hiv⟩:=h.iv;exact zqy Tryz.zt0 (by kernel_rfl) (hL.iv (of_decide_eq_true (by kernel_rfl)) hiv) hr
theorem zxc{hgl:zf}{Gg:Gh}(h:zqV hgl):HOK Tryz.prog hgl Gg (qy (qy (qy (qy (qy (zof tab) 9 zsu) 28 zi3) 178 zfM) 188 (zhp 9)) 204 zin):=zgY (zxb h) fun B W0 hL args h0 r hr=>by exact zpO Tryz.zrp (hL.opq (of_decide_eq_true (by kernel_rfl)) h.e1) (hL.opq (of_decide_eq_true (by kernel_rfl)) h.e2) hr
theorem zz5{hgl:zf}{Gg:Gh}(h:zqV hgl):HOK Tryz.prog hgl Gg hkA:=zxc h
set_option maxRecDepth 100000 in
theorem zrb(H:Type)(enc:TypeId×Value->H)(W:World)(args:Array Value)(ds gs:List (DataW H))(before:List MemPlace)(base:Nat)
  (hval:∀ (j:Nat) t v,Tryz.f6.params[j]?=some t->args[j]?=some v->Value.okWide Tryz.prog W .any base t v) (hW:DataW.Whole enc Tryz.prog Tryz.f6.params.toList Rows.clientReadsSpec.vars false W args.toList ds gs before) (hL:laidMetH Tryz.prog Rows.clientReadsRow.laid W) (hS:W.ShapedOpen Tryz.prog):
  Calls Tryz.prog 6 args W fun e W'=>∃ v,e=.returned v/\Rows.clientReadsSpec.post enc Tryz.prog Tryz.f6 false true false false W args v W':=by
 have hW0:=hW
 obtain⟨p,q,hA0,hV,rfl,hfz,hnd⟩:=hW
 have hA:DataW.TrodAll enc Tryz.prog W 0 (fun _=>true) true Tryz.f6.params.toList args.toList ds p:=hA0
 rw[Tryz.params6] at hA hval
 obtain⟨v0,vs0,d0,ds0,p0,q0,hargs,rfl,_,r0⟩:=znh hA
 obtain⟨rfl,rfl⟩:=zng r0
 obtain⟨hgl,Gg,hLd,hal⟩:=zxh hL hS
 obtain⟨ps,hv,_⟩:=(show laidMet Tryz.prog Rows.clientReadsRow.laid W from hL)
 refine(zro (gl:=glA) (ct:=fun N=>zgA (jU N)) (n:=1500) (pl:=jV) (us:=[(.sl .u8)]) (F:=fun N x=>qL N x.1) hmo hng (zz5 hal) hLd (rgl hal) zcG zcP rfl zcQ (ts:=[24]) (by kernel_rfl) hA
  (fun j t v h1 h2=>hval j t v (by simpa using h1) (by simpa using h2)) (zid hv rfl) law).mono ?_
 rintro e W' ⟨rfl,hg⟩
 exact⟨_,rfl,zpT lo mr full (by kernel_rfl) (tb:=4) (by kernel_rfl) (by kernel_rfl) rfl rfl hW0 hg⟩
theorem reads(os:Os){H:Type}(enc:TypeId×Value->H):∃ places,DataW.whole enc Tryz.prog ((jM os).forCall (fun _ _=>0) ⟨#[],#[Value.slice none 0 0],[]⟩).memory Tryz.f6.params.toList Rows.clientReadsSpec.vars false #[Value.slice none 0 0].toList 8=some ([.nil],[],places):=
 ⟨[],by kernel_rfl⟩
set_option maxRecDepth 100000 in
theorem lifted(os:Os)(started:os.Started)(H:Type)(enc:TypeId×Value->H)(F:Stop.Interp):
  ReturnsInHanded {} Tryz.checked os 6 .any ((OpenSpec.ofChange Rows.clientReadsSpec).preRow enc Tryz.prog Tryz.f6 Rows.clientReadsRow.domain false Rows.clientReadsRow.laid) (((OpenSpec.ofChange Rows.clientReadsSpec).at F).post enc Tryz.prog Tryz.f6 false true false false):=by
 obtain⟨places,hx⟩:=reads os enc
 refine returnsInHanded_of_row (C:=Tryz.checked) (s:=OpenSpec.ofChange Rows.clientReadsSpec) own started (by kernel_rfl) Tryz.func6
  (witness_row_atRef (enc:=enc) (C:=Tryz.checked) false (jM os) #[Value.slice none 0 0] rfl (by kernel_rfl) (by kernel_rfl) (by kernel_rfl)
   (OpenSpec.preRow_of_cond 8 hx (by kernel_rfl) (fun k hk=>by cases hk) (by kernel_rfl) (zrm os _))) ?_
 intro W base args ds gs before hval hW _ _ _ hL hS _
 exact zrb H enc W args ds gs before base hval hW hL hS
theorem zzD{a b:Bool}(h:a=true)(k:b=true):(a&&b)=true:=by rw[h,k];rfl
set_option maxRecDepth 100000 in
set_option maxHeartbeats 4000000 in
theorem closed:joinedFacts Tryz.pinned.checked.prog 6 Tryz.f6 (OpenSpec.ofChange Rows.clientReadsSpec).bare Rows.clientReadsRow=true:=by
 unfold joinedFacts
 repeat' (with_reducible refine zzD ?_ ?_)
 all_goals (as_aux_lemma=>kernel_rfl)
set_option maxHeartbeats 4000000 in
theorem wrapper:Func.isWrapper Tryz.pinned.checked.prog Tryz.f6 Rows.clientReadsRow.wrapper Rows.clientReadsRow.mainSum:=by
 unfold Func.isWrapper
 first|(rw[if_pos (by decide +kernel)];kernel_rfl)|(rw[if_neg (by decide +kernel)];exact⟨rfl,rfl⟩)
theorem named:Tryz.pinned.checked.prog.funcNamed Rows.clientReadsRow.func=some 6:=by kernel_rfl
theorem said:Rows.ClientReadsSaid:=
 OpenClaim.holds_of_cond 6 Tryz.f6 rfl rfl rfl rfl rfl rfl rfl ⟨rfl,rfl,rfl,rfl,rfl⟩ rfl rfl rfl rfl rfl named Tryz.func6 closed
  (of_decide_eq_true (by kernel_rfl)) wrapper
  (fun os started H enc _ F=>by rw[OpenClaim.pre_eq_preRow];exact lifted os started H enc F)
theorem plain(f:FuncId)(fn:Func)(hf:Tryz.pinned.checked.prog.funcNamed "cubbyhole/cubbyholelaw08.ClientReads" = some f) (hfn:Tryz.pinned.checked.prog.funcs[f]?=some fn):
  true=Tryz.pinned.checked.prog.looks []/\∀ (j:Nat) t,fn.params[j]?=some t->Tryz.pinned.checked.prog.wantsStandIn t=false:=by
 obtain rfl:f=6:=Option.some.inj ((show Tryz.prog.funcNamed "cubbyhole/cubbyholelaw08.ClientReads" = some 6 by kernel_rfl).symm.trans hf) |>.symm
 obtain rfl:fn=Tryz.f6:=(Option.some.inj (Tryz.func6.symm.trans hfn)).symm
 refine⟨by kernel_rfl,fun j t ht=>?_⟩
 have hall:(Tryz.f6.params.toList.all fun t=>!(Tryz.prog.wantsStandIn t))=true:=by kernel_rfl
 have:=List.all_eq_true.1 hall t (by rw[Array.mem_toList_iff];exact Array.mem_of_getElem? ht)
 show Tryz.prog.wantsStandIn t=false
 simpa using this
theorem clientReads_holds:Rows.ClientReadsCardSaid:=
 Claim7.holds_tied_plain_at .later [] _ _ _ _ said (fun _ h=>by cases h) (by kernel_rfl) (fun _ h=>by cases h) clientReads_row_tie rfl ⟨rfl,rfl⟩ (by kernel_rfl) rfl plain (by kernel_rfl)
#print axioms clientReads_holds
end Go.Proofs.YtlfojfedfhpoiaaGreatDoor
