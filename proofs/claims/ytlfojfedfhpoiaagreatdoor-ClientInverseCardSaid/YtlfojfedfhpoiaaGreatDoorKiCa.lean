/- ClientInverse: for all arguments the law returns true, and the arguments are left as they were. Conditions: the listed package variables hold what the program's text lays. -/
import Derived.Test.YtlfojfedfhpoiaaGreatDoorKiLy
import Derived.Test.YtlfojfedfhpoiaaGreatDoorCards
import Derived.Test.YtlfojfedfhpoiaaGreatDoorTie
import Derived.Test.YtlfojfedfhpoiaaGreatDoorKiPi
import Derived.Test.YtlfojfedfhpoiaaGreatDoorKiWi
import Derived.Test.YtlfojfedfhpoiaaGreatDoorKiLa
import Derived.WalkKit
import Derived.ProofKit
import Derived.OpenShut
import Derived.Deep.DeepHandedRow
open Option.some renaming inj->ya
set_option linter.unusedVariables false
namespace Go.Proofs.YtlfojfedfhpoiaaGreatDoor
open Go.Proofs.Model Go Go.Gx Go.Mx Go.Sx Go.ChangeShapes Go.WideShapes Go.ChangeAt Go.RowKit
theorem rgl{hgl:zg}(h:zi3 hgl)(E:List Blk):RGl Tryz.prog glA ⟨hgl++E,PhA (hgl++E),[],[]⟩:=zvW h.gl (of_decide_eq_true (by kernel_rfl)) E
theorem zwS{hgl:zg}{Gg:Gh}(h:zi3 hgl):HOK Tryz.prog hgl Gg (zM (zkV tab) 9 znb):=zcy (zkC tab xfn) fun B W0 hL args h0 r hr=>by
 cases args with
 |nil=>
  cases hr
  obtain⟨h',hc⟩:=zjV h.a9
  exact zh9 hmo hng (zkC tab xfn) hL hc rfl rfl
 |cons=>cases hr
theorem zwT{hgl:zg}{Gg:Gh}(h:zi3 hgl):HOK Tryz.prog hgl Gg (zM (zM (zkV tab) 9 znb) 28 zfL):=zcy (zwS h) fun B W0 hL args h0 r hr=>by exact zo5 Tryz.znT Tryz.zqT hr
theorem zwU{hgl:zg}{Gg:Gh}(h:zi3 hgl):HOK Tryz.prog hgl Gg (zM (zM (zM (zkV tab) 9 znb) 28 zfL) 178 zdz):=zcy (zwT h) fun B W0 hL args h0 r hr=>by obtain⟨lo,hi,hiv⟩:=h.iv;exact zlU Tryz.znU (hL.iv (of_decide_eq_true (by kernel_rfl)) hiv) hr
theorem zwV{hgl:zg}{Gg:Gh}(h:zi3 hgl):HOK Tryz.prog hgl Gg (zM (zM (zM (zM (zkV tab) 9 znb) 28 zfL) 178 zdz) 188 (zeJ 9)):=zcy (zwU h) fun B W0 hL args h0 r hr=>by obtain⟨lo,hi,hiv⟩:=h.iv;exact zmR Tryz.znS (by kernel_rfl) (hL.iv (of_decide_eq_true (by kernel_rfl)) hiv) hr
theorem zwW{hgl:zg}{Gg:Gh}(h:zi3 hgl):HOK Tryz.prog hgl Gg (zM (zM (zM (zM (zM (zkV tab) 9 znb) 28 zfL) 178 zdz) 188 (zeJ 9)) 204 zg4):=zcy (zwV h) fun B W0 hL args h0 r hr=>by exact zmy Tryz.zkO (hL.opq (of_decide_eq_true (by kernel_rfl)) h.e1) (hL.opq (of_decide_eq_true (by kernel_rfl)) h.e2) hr
theorem zA7{hgl:zg}{Gg:Gh}(h:zi3 hgl):HOK Tryz.prog hgl Gg hkA:=zwW h
set_option maxRecDepth 100000 in
theorem zko(H:Type)(enc:TypeId×Value->H)(W:World)(args:Array Value)(ds gs:List (DataW H))(before:List MemPlace)(base:Nat)
  (hval:∀ (j:Nat) t v,Tryz.f7.params[j]?=some t->args[j]?=some v->Value.okWide Tryz.prog W .any base t v) (hW:DataW.Whole enc Tryz.prog Tryz.f7.params.toList Rows.clientInverseSpec.vars false W args.toList ds gs before) (hL:laidMetH Tryz.prog Rows.clientInverseRow.laid W) (hS:W.ShapedOpen Tryz.prog):
  Calls Tryz.prog 7 args W fun e W'=>∃ v,e=.returned v/\Rows.clientInverseSpec.post enc Tryz.prog Tryz.f7 false true false false W args v W':=by
 have hW0:=hW
 obtain⟨p,q,hA0,hV,rfl,hfz,hnd⟩:=hW
 have hA:DataW.TrodAll enc Tryz.prog W 0 (fun _=>true) true Tryz.f7.params.toList args.toList ds p:=hA0
 rw[Tryz.params7] at hA hval
 obtain⟨v0,vs0,d0,ds0,p0,q0,hargs,rfl,_,r0⟩:=zlk hA
 obtain⟨rfl,rfl⟩:=zlj r0
 obtain⟨hgl,Gg,hLd,hal⟩:=zxi hL hS
 obtain⟨ps,hv,_⟩:=(show laidMet Tryz.prog Rows.clientInverseRow.laid W from hL)
 refine(zo7 (gl:=glA) (ct:=fun N=>zfj (wz N)) (n:=1500) (pl:=wA) (us:=[(.sl (.pair .str (.pair (.int .i64) (.pair .str (.pair (.sl (.pair (.int .u32) (.int .u32))) (.pair (.int .i64) (.pair (.int .i64) (.pair .bool (.pair .u8 (.sl .u8))))))))))]) (F:=fun N x=>qy N x.1) hmo hng (zA7 hal) hLd (rgl hal) zcE zc6 rfl zc7 (ts:=[38]) (by kernel_rfl) hA
  (fun j t v h1 h2=>hval j t v (by simpa using h1) (by simpa using h2)) (zgt hv rfl) law).mono ?_
 rintro e W' ⟨rfl,hg⟩
 exact⟨_,rfl,zmz lo mr full (by kernel_rfl) (tb:=4) (by kernel_rfl) (by kernel_rfl) rfl rfl hW0 hg⟩
theorem reads(os:Os){H:Type}(enc:TypeId×Value->H):∃ places,DataW.whole enc Tryz.prog ((zX os).forCall (fun _ _=>0) ⟨#[],#[Value.slice none 0 0],[]⟩).memory Tryz.f7.params.toList Rows.clientInverseSpec.vars false #[Value.slice none 0 0].toList 8=some ([.nil],[],places):=
 ⟨[],by kernel_rfl⟩
set_option maxRecDepth 100000 in
theorem lifted(os:Os)(started:os.Started)(H:Type)(enc:TypeId×Value->H)(F:Stop.Interp):
  ReturnsInHanded {} Tryz.checked os 7 .any ((OpenSpec.ofChange Rows.clientInverseSpec).preRow enc Tryz.prog Tryz.f7 Rows.clientInverseRow.domain false Rows.clientInverseRow.laid) (((OpenSpec.ofChange Rows.clientInverseSpec).at F).post enc Tryz.prog Tryz.f7 false true false false):=by
 obtain⟨places,hx⟩:=reads os enc
 refine returnsInHanded_of_row (C:=Tryz.checked) (s:=OpenSpec.ofChange Rows.clientInverseSpec) own started (by kernel_rfl) Tryz.func7
  (witness_row_atRef (enc:=enc) (C:=Tryz.checked) false (zX os) #[Value.slice none 0 0] rfl (by kernel_rfl) (by kernel_rfl) (by kernel_rfl)
   (OpenSpec.preRow_of_cond 8 hx (by kernel_rfl) (fun k hk=>by cases hk) (by kernel_rfl) (zkN os _))) ?_
 intro W base args ds gs before hval hW _ _ _ hL hS _
 exact zko H enc W args ds gs before base hval hW hL hS
theorem zAZ{a b:Bool}(h:a=true)(k:b=true):(a&&b)=true:=by rw[h,k];rfl
set_option maxRecDepth 100000 in
set_option maxHeartbeats 4000000 in
theorem closed:joinedFacts Tryz.pinned.checked.prog 7 Tryz.f7 (OpenSpec.ofChange Rows.clientInverseSpec).bare Rows.clientInverseRow=true:=by
 unfold joinedFacts
 repeat' (with_reducible refine zAZ ?_ ?_)
 all_goals (as_aux_lemma=>kernel_rfl)
set_option maxHeartbeats 4000000 in
theorem wrapper:Func.isWrapper Tryz.pinned.checked.prog Tryz.f7 Rows.clientInverseRow.wrapper Rows.clientInverseRow.mainSum:=by
 unfold Func.isWrapper
 first|(rw[if_pos (by decide +kernel)];kernel_rfl)|(rw[if_neg (by decide +kernel)];exact⟨rfl,rfl⟩)
theorem named:Tryz.pinned.checked.prog.funcNamed Rows.clientInverseRow.func=some 7:=by kernel_rfl
theorem said:Rows.ClientInverseSaid:=
 OpenClaim.holds_of_cond 7 Tryz.f7 rfl rfl rfl rfl rfl rfl rfl ⟨rfl,rfl,rfl,rfl,rfl⟩ rfl rfl rfl rfl rfl named Tryz.func7 closed
  (of_decide_eq_true (by kernel_rfl)) wrapper
  (fun os started H enc _ F=>by rw[OpenClaim.pre_eq_preRow];exact lifted os started H enc F)
theorem plain(f:FuncId)(fn:Func)(hf:Tryz.pinned.checked.prog.funcNamed "cubbyhole/cubbyholelaw08.ClientInverse" = some f) (hfn:Tryz.pinned.checked.prog.funcs[f]?=some fn):
  true=Tryz.pinned.checked.prog.looks []/\∀ (j:Nat) t,fn.params[j]?=some t->Tryz.pinned.checked.prog.wantsStandIn t=false:=by
 obtain rfl:f=7:=ya ((show Tryz.prog.funcNamed "cubbyhole/cubbyholelaw08.ClientInverse" = some 7 by kernel_rfl).symm.trans hf) |>.symm
 obtain rfl:fn=Tryz.f7:=(ya (Tryz.func7.symm.trans hfn)).symm
 refine⟨by kernel_rfl,fun j t ht=>?_⟩
 have hall:(Tryz.f7.params.toList.all fun t=>!(Tryz.prog.wantsStandIn t))=true:=by kernel_rfl
 have:=List.all_eq_true.1 hall t (by rw[Array.mem_toList_iff];exact Array.mem_of_getElem? ht)
 show Tryz.prog.wantsStandIn t=false
 simpa using this
theorem clientInverse_holds:Rows.ClientInverseCardSaid:=
 Claim7.holds_tied_plain_at .later [] _ _ _ _ said (fun _ h=>by cases h) (by kernel_rfl) (fun _ h=>by cases h) clientInverse_row_tie rfl ⟨rfl,rfl⟩ (by kernel_rfl) rfl plain (by kernel_rfl)
#print axioms clientInverse_holds
end Go.Proofs.YtlfojfedfhpoiaaGreatDoor
