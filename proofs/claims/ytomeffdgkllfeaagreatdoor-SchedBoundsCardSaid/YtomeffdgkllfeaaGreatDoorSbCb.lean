/- SchedBounds: for all arguments the law returns true, and the arguments are left as they were. Conditions: the listed package variables hold what the program's text lays. -/
import Derived.Test.YtomeffdgkllfeaaGreatDoorSbLy
import Derived.Test.YtomeffdgkllfeaaGreatDoorCards
import Derived.Test.YtomeffdgkllfeaaGreatDoorSbTi
import Derived.Test.YtomeffdgkllfeaaGreatDoorSbPi
import Derived.Test.YtomeffdgkllfeaaGreatDoorSbWi
import Derived.Test.YtomeffdgkllfeaaGreatDoorSbLa
import Derived.WalkKit
import Derived.ProofKit
import Derived.OpenShut
import Derived.Deep.DeepHandedRow
set_option linter.unusedVariables false
namespace Go.Proofs.YtomeffdgkllfeaaGreatDoor
open Go.Proofs.Model Go Go.Gx Go.Mx Go.Sx Go.ChangeShapes Go.WideShapes Go.ChangeAt Go.RowKit
theorem rgl{hgl:zb}(h:ziW hgl)(E:List Blk):RGl Tryz.prog glA ⟨hgl++E,PhA (hgl++E),[],[]⟩:=zo4 h.gl (of_decide_eq_true (by kernel_rfl)) E
theorem zp8{hgl:zb}{Gg:Gh}(h:ziW hgl):HOK Tryz.prog hgl Gg (zt (zex tab) 5 zlj):=zac (zel tab xfn) fun B W0 hL args h0 r hr=>by
 cases args with
 |nil=>
  cases hr
  obtain⟨h',hc⟩:=ziA h.a5
  exact zcB hmo hng (zrk h) hL hc rfl rfl
 |cons=>cases hr
theorem zp9{hgl:zb}{Gg:Gh}(h:ziW hgl):HOK Tryz.prog hgl Gg (zt (zt (zex tab) 5 zlj) 26 zj5):=zac (zp8 h) fun B W0 hL args h0 r hr=>by exact znK hmo hng (zel tab xfn) hL h.nw hr
theorem zqa{hgl:zb}{Gg:Gh}(h:ziW hgl):HOK Tryz.prog hgl Gg (zt (zt (zt (zex tab) 5 zlj) 26 zj5) 71 zaI):=zac (zp9 h) fun B W0 hL args h0 r hr=>by obtain⟨lo,hi,hiv⟩:=h.iv;exact zjG Tryz.znA (hL.iv (of_decide_eq_true (by kernel_rfl)) hiv) hr
theorem zqb{hgl:zb}{Gg:Gh}(h:ziW hgl):HOK Tryz.prog hgl Gg (zt (zt (zt (zt (zex tab) 5 zlj) 26 zj5) 71 zaI) 101 zbH):=zac (zqa h) fun B W0 hL args h0 r hr=>by exact zke Tryz.zlz (hL.opq (of_decide_eq_true (by kernel_rfl)) h.e1) (hL.opq (of_decide_eq_true (by kernel_rfl)) h.e2) hr
theorem zqc{hgl:zb}{Gg:Gh}(h:ziW hgl):HOK Tryz.prog hgl Gg (zt (zt (zt (zt (zt (zex tab) 5 zlj) 26 zj5) 71 zaI) 101 zbH) 297 zgM):=zac (zqb h) fun B W0 hL args h0 r hr=>by exact zlw Tryz.znz Tryz.zoy hr
theorem zqd{hgl:zb}{Gg:Gh}(h:ziW hgl):HOK Tryz.prog hgl Gg (zt (zt (zt (zt (zt (zt (zex tab) 5 zlj) 26 zj5) 71 zaI) 101 zbH) 297 zgM) 370 (zdV 9)):=zac (zqc h) fun B W0 hL args h0 r hr=>by obtain⟨lo,hi,hiv⟩:=h.iv;exact zkP Tryz.zny (by kernel_rfl) (hL.iv (of_decide_eq_true (by kernel_rfl)) hiv) hr
theorem zrj{hgl:zb}{Gg:Gh}(h:ziW hgl):HOK Tryz.prog hgl Gg hkA:=zqd h
set_option maxRecDepth 100000 in
theorem zlr(H:Type)(enc:TypeId×Value->H)(W:World)(args:Array Value)(ds gs:List (DataW H))(before:List MemPlace)(base:Nat)
  (hval:∀ (j:Nat) t v,Tryz.f3.params[j]?=some t->args[j]?=some v->Value.okWide Tryz.prog W .any base t v) (hW:DataW.Whole enc Tryz.prog Tryz.f3.params.toList Rows.schedBoundsSpec.vars false W args.toList ds gs before) (hL:laidMetH Tryz.prog Rows.schedBoundsRow.laid W) (hS:W.ShapedOpen Tryz.prog):
  Calls Tryz.prog 3 args W fun e W'=>∃ v,e=.returned v/\Rows.schedBoundsSpec.post enc Tryz.prog Tryz.f3 false true false false W args v W':=by
 have hW0:=hW
 obtain⟨p,q,hA0,hV,rfl,hfz,hnd⟩:=hW
 have hA:DataW.TrodAll enc Tryz.prog W 0 (fun _=>true) true Tryz.f3.params.toList args.toList ds p:=hA0
 rw[Tryz.params3] at hA hval
 obtain⟨v0,vs0,d0,ds0,p0,q0,hargs,rfl,_,r0⟩:=zeS hA
 obtain⟨v1,vs1,d1,ds1,p1,q1,rfl,rfl,_,r1⟩:=zeS r0
 obtain⟨rfl,rfl⟩:=zhY r1
 obtain⟨hgl,Gg,hLd,hal⟩:=zqm hL hS
 obtain⟨ps,hv,_⟩:=(show laidMet Tryz.prog Rows.schedBoundsRow.laid W from hL)
 refine(zly (gl:=glA) (ct:=fun N=>zdf (qf N)) (n:=1500) (pl:=qg) (us:=[(.pair (.int .i64) (.pair (.int .i64) (.int .u32))),(.sl (.sl .u8))]) (F:=fun N x=>zR N x.1 x.2.1) hmo hng (zrj hal) hLd (rgl hal) kJ kQ rfl kR (ts:=[24,25]) (by kernel_rfl) hA
  (fun j t v h1 h2=>hval j t v (by simpa using h1) (by simpa using h2)) (zdH hv rfl) law).mono ?_
 rintro e W' ⟨rfl,hg⟩
 exact⟨_,rfl,zkg lo mr full (by kernel_rfl) (tb:=4) (by kernel_rfl) (by kernel_rfl) rfl rfl hW0 hg⟩
theorem reads(os:Os){H:Type}(enc:TypeId×Value->H):∃ places,DataW.whole enc Tryz.prog ((qc os).forCall (fun _ _=>0) ⟨#[],#[Value.agg #[Value.int .i64 0,Value.int .i64 0,Value.int .u32 0],Value.slice none 0 0],[]⟩).memory Tryz.f3.params.toList Rows.schedBoundsSpec.vars false #[Value.agg #[Value.int .i64 0,Value.int .i64 0,Value.int .u32 0],Value.slice none 0 0].toList 8=some ([.agg [.lit (.int .i64 0),.lit (.int .i64 0),.lit (.int .u32 0)],.nil],[],places):=
 ⟨[],by kernel_rfl⟩
set_option maxRecDepth 100000 in
theorem lifted(os:Os)(started:os.Started)(H:Type)(enc:TypeId×Value->H)(F:Stop.Interp):
  ReturnsInHanded {} Tryz.checked os 3 .any ((OpenSpec.ofChange Rows.schedBoundsSpec).preRow enc Tryz.prog Tryz.f3 Rows.schedBoundsRow.domain false Rows.schedBoundsRow.laid) (((OpenSpec.ofChange Rows.schedBoundsSpec).at F).post enc Tryz.prog Tryz.f3 false true false false):=by
 obtain⟨places,hx⟩:=reads os enc
 refine returnsInHanded_of_row (C:=Tryz.checked) (s:=OpenSpec.ofChange Rows.schedBoundsSpec) own started (by kernel_rfl) Tryz.func3
  (witness_row_atRef (enc:=enc) (C:=Tryz.checked) false (qc os) #[Value.agg #[Value.int .i64 0,Value.int .i64 0,Value.int .u32 0],Value.slice none 0 0] rfl (by kernel_rfl) (by kernel_rfl) (by kernel_rfl)
   (OpenSpec.preRow_of_cond 8 hx (by kernel_rfl) (fun k hk=>by cases hk) (by kernel_rfl) (zlx os _))) ?_
 intro W base args ds gs before hval hW _ _ _ hL hS _
 exact zlr H enc W args ds gs before base hval hW hL hS
theorem zqU{a b:Bool}(h:a=true)(k:b=true):(a&&b)=true:=by rw[h,k];rfl
set_option maxRecDepth 100000 in
set_option maxHeartbeats 4000000 in
theorem closed:joinedFacts Tryz.pinned.checked.prog 3 Tryz.f3 (OpenSpec.ofChange Rows.schedBoundsSpec).bare Rows.schedBoundsRow=true:=by
 unfold joinedFacts
 repeat' (with_reducible refine zqU ?_ ?_)
 all_goals (as_aux_lemma=>kernel_rfl)
set_option maxHeartbeats 4000000 in
theorem wrapper:Func.isWrapper Tryz.pinned.checked.prog Tryz.f3 Rows.schedBoundsRow.wrapper Rows.schedBoundsRow.mainSum:=by
 unfold Func.isWrapper
 first|(rw[if_pos (by decide +kernel)];kernel_rfl)|(rw[if_neg (by decide +kernel)];exact⟨rfl,rfl⟩)
theorem named:Tryz.pinned.checked.prog.funcNamed Rows.schedBoundsRow.func=some 3:=by kernel_rfl
theorem said:Rows.SchedBoundsSaid:=
 OpenClaim.holds_of_cond 3 Tryz.f3 rfl rfl rfl rfl rfl rfl rfl ⟨rfl,rfl,rfl,rfl,rfl⟩ rfl rfl rfl rfl rfl named Tryz.func3 closed
  (of_decide_eq_true (by kernel_rfl)) wrapper
  (fun os started H enc _ F=>by rw[OpenClaim.pre_eq_preRow];exact lifted os started H enc F)
theorem plain(f:FuncId)(fn:Func)(hf:Tryz.pinned.checked.prog.funcNamed "cubbyhole/cubbyholelaw24.SchedBounds" = some f) (hfn:Tryz.pinned.checked.prog.funcs[f]?=some fn):
  true=Tryz.pinned.checked.prog.looks []/\∀ (j:Nat) t,fn.params[j]?=some t->Tryz.pinned.checked.prog.wantsStandIn t=false:=by
 obtain rfl:f=3:=Option.some.inj ((show Tryz.prog.funcNamed "cubbyhole/cubbyholelaw24.SchedBounds" = some 3 by kernel_rfl).symm.trans hf) |>.symm
 obtain rfl:fn=Tryz.f3:=(Option.some.inj (Tryz.func3.symm.trans hfn)).symm
 refine⟨by kernel_rfl,fun j t ht=>?_⟩
 have hall:(Tryz.f3.params.toList.all fun t=>!(Tryz.prog.wantsStandIn t))=true:=by kernel_rfl
 have:=List.all_eq_true.1 hall t (by rw[Array.mem_toList_iff];exact Array.mem_of_getElem? ht)
 show Tryz.prog.wantsStandIn t=false
 simpa using this
end Go.Proofs.YtomeffdgkllfeaaGreatDoor
