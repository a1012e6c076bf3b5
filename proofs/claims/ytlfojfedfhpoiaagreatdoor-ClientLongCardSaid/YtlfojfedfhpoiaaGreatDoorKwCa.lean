/- ClientLong: for all arguments the law returns true, and the arguments are left as they were. Conditions: the listed package variables hold what the program's text lays. -/
import Derived.Test.YtlfojfedfhpoiaaGreatDoorKwLy
import Derived.Test.YtlfojfedfhpoiaaGreatDoorCards
import Derived.Test.YtlfojfedfhpoiaaGreatDoorTie
import Derived.Test.YtlfojfedfhpoiaaGreatDoorKwPi
import Derived.Test.YtlfojfedfhpoiaaGreatDoorKwWi
import Derived.Test.YtlfojfedfhpoiaaGreatDoorKwLa
import Derived.WalkKit
import Derived.ProofKit
import Derived.OpenShut
import Derived.Deep.DeepHandedRow
set_option linter.unusedVariables false
namespace Go.Proofs.YtlfojfedfhpoiaaGreatDoor
open Go.Proofs.Model Go Go.Gx Go.Mx Go.Sx Go.ChangeShapes Go.WideShapes Go.ChangeAt Go.RowKit
theorem rgl{hgl:zb}(h:zkW hgl)(E:List Blk):RGl Tryz.prog glA ⟨hgl++E,PhA (hgl++E),[],[]⟩:=zq6 h.gl (of_decide_eq_true (by kernel_rfl)) E
theorem zsc{hgl:zb}{Gg:Gh}(h:zkW hgl):HOK Tryz.prog hgl Gg (zC (zke tab) 9 znh):=zcK (zlB tab xfn) fun B W0 hL args h0 r hr=>by
 cases args with
 |nil=>
  cases hr
  obtain⟨h',hc⟩:=zku h.a9
  exact zid hmo hng (zlB tab xfn) hL hc rfl rfl
 |cons=>cases hr
theorem zsd{hgl:zb}{Gg:Gh}(h:zkW hgl):HOK Tryz.prog hgl Gg (zC (zC (zke tab) 9 znh) 15 kI):=zcK (zsc h) fun B W0 hL args h0 r hr=>by exact zkt Tryz.zpz Tryz.zpf hr
theorem zse{hgl:zb}{Gg:Gh}(h:zkW hgl):HOK Tryz.prog hgl Gg (zC (zC (zC (zke tab) 9 znh) 15 kI) 28 zf8):=zcK (zsd h) fun B W0 hL args h0 r hr=>by exact zns Tryz.zpB Tryz.zqA hr
theorem zsf{hgl:zb}{Gg:Gh}(h:zkW hgl):HOK Tryz.prog hgl Gg (zC (zC (zC (zC (zke tab) 9 znh) 15 kI) 28 zf8) 178 zdh):=zcK (zse h) fun B W0 hL args h0 r hr=>by obtain⟨lo,hi,hiv⟩:=h.iv;exact zlF Tryz.zpC (hL.iv (of_decide_eq_true (by kernel_rfl)) hiv) hr
theorem zsg{hgl:zb}{Gg:Gh}(h:zkW hgl):HOK Tryz.prog hgl Gg (zC (zC (zC (zC (zC (zke tab) 9 znh) 15 kI) 28 zf8) 178 zdh) 188 (zeR 9)):=zcK (zsf h) fun B W0 hL args h0 r hr=>by obtain⟨lo,hi,hiv⟩:=h.iv;exact zmO Tryz.zpA (by kernel_rfl) (hL.iv (of_decide_eq_true (by kernel_rfl)) hiv) hr
theorem zsh{hgl:zb}{Gg:Gh}(h:zkW hgl):HOK Tryz.prog hgl Gg (zC (zC (zC (zC (zC (zC (zke tab) 9 znh) 15 kI) 28 zf8) 178 zdh) 188 (zeR 9)) 204 zfE):=zcK (zsg h) fun B W0 hL args h0 r hr=>by exact zmg Tryz.znw (hL.opq (of_decide_eq_true (by kernel_rfl)) h.e1) (hL.opq (of_decide_eq_true (by kernel_rfl)) h.e2) hr
theorem zuj{hgl:zb}{Gg:Gh}(h:zkW hgl):HOK Tryz.prog hgl Gg hkA:=zsh h
set_option maxRecDepth 100000 in
theorem zno(H:Type)(enc:TypeId×Value->H)(W:World)(args:Array Value)(ds gs:List (DataW H))(before:List MemPlace)(base:Nat)
  (hval:∀ (j:Nat) t v,Tryz.f4.params[j]?=some t->args[j]?=some v->Value.okWide Tryz.prog W .any base t v) (hW:DataW.Whole enc Tryz.prog Tryz.f4.params.toList Rows.clientLongSpec.vars false W args.toList ds gs before) (hL:laidMetH Tryz.prog Rows.clientLongRow.laid W) (hS:W.ShapedOpen Tryz.prog):
  Calls Tryz.prog 4 args W fun e W'=>∃ v,e=.returned v/\Rows.clientLongSpec.post enc Tryz.prog Tryz.f4 false true false false W args v W':=by
 have hW0:=hW
 obtain⟨p,q,hA0,hV,rfl,hfz,hnd⟩:=hW
 have hA:DataW.TrodAll enc Tryz.prog W 0 (fun _=>true) true Tryz.f4.params.toList args.toList ds p:=hA0
 rw[Tryz.params4] at hA hval
 obtain⟨v0,vs0,d0,ds0,p0,q0,hargs,rfl,_,r0⟩:=zjS hA
 obtain⟨rfl,rfl⟩:=zjR r0
 obtain⟨hgl,Gg,hLd,hal⟩:=zsr hL hS
 obtain⟨ps,hv,_⟩:=(show laidMet Tryz.prog Rows.clientLongRow.laid W from hL)
 refine(znv (gl:=glA) (ct:=fun N=>zd4 (qJ N)) (n:=1500) (pl:=qK) (us:=[.u8]) (F:=fun N x=>qe N x.1) hmo hng (zuj hal) hLd (rgl hal) zaa zaQ rfl zaR (ts:=[5]) (by kernel_rfl) hA
  (fun j t v h1 h2=>hval j t v (by simpa using h1) (by simpa using h2)) (zfv hv rfl) law).mono ?_
 rintro e W' ⟨rfl,hg⟩
 exact⟨_,rfl,zmi lo mr full (by kernel_rfl) (tb:=4) (by kernel_rfl) (by kernel_rfl) rfl rfl hW0 hg⟩
theorem reads(os:Os){H:Type}(enc:TypeId×Value->H):∃ places,DataW.whole enc Tryz.prog ((jg os).forCall (fun _ _=>0) ⟨#[],#[Value.int .u8 0],[]⟩).memory Tryz.f4.params.toList Rows.clientLongSpec.vars false #[Value.int .u8 0].toList 8=some ([.lit (.int .u8 0)],[],places):=
 ⟨[],by kernel_rfl⟩
set_option maxRecDepth 100000 in
theorem lifted(os:Os)(started:os.Started)(H:Type)(enc:TypeId×Value->H)(F:Stop.Interp):
  ReturnsInHanded {} Tryz.checked os 4 .any ((OpenSpec.ofChange Rows.clientLongSpec).preRow enc Tryz.prog Tryz.f4 Rows.clientLongRow.domain false Rows.clientLongRow.laid) (((OpenSpec.ofChange Rows.clientLongSpec).at F).post enc Tryz.prog Tryz.f4 false true false false):=by
 obtain⟨places,hx⟩:=reads os enc
 refine returnsInHanded_of_row (C:=Tryz.checked) (s:=OpenSpec.ofChange Rows.clientLongSpec) own started (by kernel_rfl) Tryz.func4
  (witness_row_atRef (enc:=enc) (C:=Tryz.checked) false (jg os) #[Value.int .u8 0] rfl (by kernel_rfl) (by kernel_rfl) (by kernel_rfl)
   (OpenSpec.preRow_of_cond 8 hx (by kernel_rfl) (fun k hk=>by cases hk) (by kernel_rfl) (znt os _))) ?_
 intro W base args ds gs before hval hW _ _ _ hL hS _
 exact zno H enc W args ds gs before base hval hW hL hS
theorem ztU{a b:Bool}(h:a=true)(k:b=true):(a&&b)=true:=by rw[h,k];rfl
set_option maxRecDepth 100000 in
set_option maxHeartbeats 4000000 in
theorem closed:joinedFacts Tryz.pinned.checked.prog 4 Tryz.f4 (OpenSpec.ofChange Rows.clientLongSpec).bare Rows.clientLongRow=true:=by
 unfold joinedFacts
 repeat' (with_reducible refine ztU ?_ ?_)
 all_goals (as_aux_lemma=>kernel_rfl)
set_option maxHeartbeats 4000000 in
theorem wrapper:Func.isWrapper Tryz.pinned.checked.prog Tryz.f4 Rows.clientLongRow.wrapper Rows.clientLongRow.mainSum:=by
 unfold Func.isWrapper
 first|(rw[if_pos (by decide +kernel)];kernel_rfl)|(rw[if_neg (by decide +kernel)];exact⟨rfl,rfl⟩)
theorem named:Tryz.pinned.checked.prog.funcNamed Rows.clientLongRow.func=some 4:=by kernel_rfl
theorem said:Rows.ClientLongSaid:=
 OpenClaim.holds_of_cond 4 Tryz.f4 rfl rfl rfl rfl rfl rfl rfl ⟨rfl,rfl,rfl,rfl,rfl⟩ rfl rfl rfl rfl rfl named Tryz.func4 closed
  (of_decide_eq_true (by kernel_rfl)) wrapper
  (fun os started H enc _ F=>by rw[OpenClaim.pre_eq_preRow];exact lifted os started H enc F)
theorem plain(f:FuncId)(fn:Func)(hf:Tryz.pinned.checked.prog.funcNamed "cubbyhole/cubbyholelaw08.ClientLong" = some f) (hfn:Tryz.pinned.checked.prog.funcs[f]?=some fn):
  true=Tryz.pinned.checked.prog.looks []/\∀ (j:Nat) t,fn.params[j]?=some t->Tryz.pinned.checked.prog.wantsStandIn t=false:=by
 obtain rfl:f=4:=Option.some.inj ((show Tryz.prog.funcNamed "cubbyhole/cubbyholelaw08.ClientLong" = some 4 by kernel_rfl).symm.trans hf) |>.symm
 obtain rfl:fn=Tryz.f4:=(Option.some.inj (Tryz.func4.symm.trans hfn)).symm
 refine⟨by kernel_rfl,fun j t ht=>?_⟩
 have hall:(Tryz.f4.params.toList.all fun t=>!(Tryz.prog.wantsStandIn t))=true:=by kernel_rfl
 have:=List.all_eq_true.1 hall t (by rw[Array.mem_toList_iff];exact Array.mem_of_getElem? ht)
 show Tryz.prog.wantsStandIn t=false
 simpa using this
theorem clientLong_holds:Rows.ClientLongCardSaid:=
 Claim7.holds_tied_plain_at .later [] _ _ _ _ said (fun _ h=>by cases h) (by kernel_rfl) (fun _ h=>by cases h) clientLong_row_tie rfl ⟨rfl,rfl⟩ (by kernel_rfl) rfl plain (by kernel_rfl)
#print axioms clientLong_holds
end Go.Proofs.YtlfojfedfhpoiaaGreatDoor
