/- ReplyInverse: for all arguments the law returns true, and the arguments are left as they were. Conditions: the listed package variables hold what the program's text lays. -/
import Derived.Test.YtljnndccimlnlaaGreatDoorRiLy
import Derived.Test.YtljnndccimlnlaaGreatDoorCards
import Derived.Test.YtljnndccimlnlaaGreatDoorTie
import Derived.Test.YtljnndccimlnlaaGreatDoorRiPi
import Derived.Test.YtljnndccimlnlaaGreatDoorRiWi
import Derived.Test.YtljnndccimlnlaaGreatDoorRiLa
import Derived.WalkKit
import Derived.ProofKit
import Derived.OpenShut
import Derived.Deep.DeepHandedRow
set_option linter.unusedVariables false
namespace Go.Proofs.YtljnndccimlnlaaGreatDoor
open Go.Proofs.Model Go Go.Gx Go.Mx Go.Sx Go.ChangeShapes Go.WideShapes Go.ChangeAt Go.RowKit
theorem rgl{hgl:zp}(h:zdM hgl)(E:List Blk):RGl Tryz.prog glA ⟨hgl++E,PhA (hgl++E),[],[]⟩:=zp2 h.gl (of_decide_eq_true (by kernel_rfl)) E
theorem zpf{hgl:zp}{Gg:Gh}(h:zdM hgl):HOK Tryz.prog hgl Gg (zJ (zf4 tab) 7 zh1):=xM (zfn tab xfn) fun B W0 hL args h0 r hr=>by
 cases args with
 |nil=>
  cases hr
  obtain⟨h',hc⟩:=zfI h.a7
  exact zdZ hmo hng (zfn tab xfn) hL hc rfl rfl
 |cons=>cases hr
theorem zpg{hgl:zp}{Gg:Gh}(h:zdM hgl):HOK Tryz.prog hgl Gg (zJ (zJ (zf4 tab) 7 zh1) 37 zaa):=xM (zpf h) fun B W0 hL args h0 r hr=>by obtain⟨lo,hi,hiv⟩:=h.iv;exact zhf Tryz.zhj (hL.iv (of_decide_eq_true (by kernel_rfl)) hiv) hr
theorem zph{hgl:zp}{Gg:Gh}(h:zdM hgl):HOK Tryz.prog hgl Gg (zJ (zJ (zJ (zf4 tab) 7 zh1) 37 zaa) 81 zdJ):=xM (zpg h) fun B W0 hL args h0 r hr=>by exact zjq Tryz.zhi Tryz.zkf hr
theorem zpi{hgl:zp}{Gg:Gh}(h:zdM hgl):HOK Tryz.prog hgl Gg (zJ (zJ (zJ (zJ (zf4 tab) 7 zh1) 37 zaa) 81 zdJ) 95 zcf):=xM (zph h) fun B W0 hL args h0 r hr=>by exact zhw Tryz.zeH (hL.opq (of_decide_eq_true (by kernel_rfl)) h.e1) (hL.opq (of_decide_eq_true (by kernel_rfl)) h.e2) hr
theorem zpj{hgl:zp}{Gg:Gh}(h:zdM hgl):HOK Tryz.prog hgl Gg (zJ (zJ (zJ (zJ (zJ (zf4 tab) 7 zh1) 37 zaa) 81 zdJ) 95 zcf) 124 (zdT 9)):=xM (zpi h) fun B W0 hL args h0 r hr=>by obtain⟨lo,hi,hiv⟩:=h.iv;exact zhQ Tryz.zhh (by kernel_rfl) (hL.iv (of_decide_eq_true (by kernel_rfl)) hiv) hr
theorem zv9{hgl:zp}{Gg:Gh}(h:zdM hgl):HOK Tryz.prog hgl Gg hkA:=zpj h
set_option maxRecDepth 100000 in
theorem zer(H:Type)(enc:TypeId×Value->H)(W:World)(args:Array Value)(ds gs:List (DataW H))(before:List MemPlace)(base:Nat)
  (hval:∀ (j:Nat) t v,Tryz.f6.params[j]?=some t->args[j]?=some v->Value.okWide Tryz.prog W .any base t v) (hW:DataW.Whole enc Tryz.prog Tryz.f6.params.toList Rows.replyInverseSpec.vars false W args.toList ds gs before) (hL:laidMetH Tryz.prog Rows.replyInverseRow.laid W) (hS:W.ShapedOpen Tryz.prog):
  Calls Tryz.prog 6 args W fun e W'=>∃ v,e=.returned v/\Rows.replyInverseSpec.post enc Tryz.prog Tryz.f6 false true false false W args v W':=by
 have hW0:=hW
 obtain⟨p,q,hA0,hV,rfl,hfz,hnd⟩:=hW
 have hA:DataW.TrodAll enc Tryz.prog W 0 (fun _=>true) true Tryz.f6.params.toList args.toList ds p:=hA0
 rw[Tryz.params6] at hA hval
 obtain⟨v0,vs0,d0,ds0,p0,q0,hargs,rfl,_,r0⟩:=ze3 hA
 obtain⟨rfl,rfl⟩:=zgU r0
 obtain⟨hgl,Gg,hLd,hal⟩:=zpT hL hS
 obtain⟨ps,hv,_⟩:=(show laidMet Tryz.prog Rows.replyInverseRow.laid W from hL)
 refine(zjw (gl:=glA) (ct:=fun N=>ze2 (kC N)) (n:=1500) (pl:=kD) (us:=[(.sl (.pair (.int .i64) (.pair (.int .u32) (.pair .str (.pair (.int .i64) (.pair .str (.pair (.int .i64) (.pair .u8 (.pair (.int .u32) (.pair (.int .u32) (.sl .u8)))))))))))]) (F:=fun N x=>jB N x.1) hmo hng (zv9 hal) hLd (rgl hal) zcp zcP rfl zcQ (ts:=[32]) (by kernel_rfl) hA
  (fun j t v h1 h2=>hval j t v (by simpa using h1) (by simpa using h2)) (zds hv rfl) law).mono ?_
 rintro e W' ⟨rfl,hg⟩
 exact⟨_,rfl,zhx lo mr full (by kernel_rfl) (tb:=4) (by kernel_rfl) (by kernel_rfl) rfl rfl hW0 hg⟩
theorem reads(os:Os){H:Type}(enc:TypeId×Value->H):∃ places,DataW.whole enc Tryz.prog ((zQ os).forCall (fun _ _=>0) ⟨#[],#[Value.slice none 0 0],[]⟩).memory Tryz.f6.params.toList Rows.replyInverseSpec.vars false #[Value.slice none 0 0].toList 8=some ([.nil],[],places):=
 ⟨[],by kernel_rfl⟩
set_option maxRecDepth 100000 in
theorem lifted(os:Os)(started:os.Started)(H:Type)(enc:TypeId×Value->H)(F:Stop.Interp):
  ReturnsInHanded {} Tryz.checked os 6 .any ((OpenSpec.ofChange Rows.replyInverseSpec).preRow enc Tryz.prog Tryz.f6 Rows.replyInverseRow.domain false Rows.replyInverseRow.laid) (((OpenSpec.ofChange Rows.replyInverseSpec).at F).post enc Tryz.prog Tryz.f6 false true false false):=by
 obtain⟨places,hx⟩:=reads os enc
 refine returnsInHanded_of_row (C:=Tryz.checked) (s:=OpenSpec.ofChange Rows.replyInverseSpec) own started (by kernel_rfl) Tryz.func6
  (witness_row_atRef (enc:=enc) (C:=Tryz.checked) false (zQ os) #[Value.slice none 0 0] rfl (by kernel_rfl) (by kernel_rfl) (by kernel_rfl)
   (OpenSpec.preRow_of_cond 8 hx (by kernel_rfl) (fun k hk=>by cases hk) (by kernel_rfl) (zeG os _))) ?_
 intro W base args ds gs before hval hW _ _ _ hL hS _
 exact zer H enc W args ds gs before base hval hW hL hS
theorem zvS{a b:Bool}(h:a=true)(k:b=true):(a&&b)=true:=by rw[h,k];rfl
set_option maxRecDepth 100000 in
set_option maxHeartbeats 4000000 in
theorem closed:joinedFacts Tryz.pinned.checked.prog 6 Tryz.f6 (OpenSpec.ofChange Rows.replyInverseSpec).bare Rows.replyInverseRow=true:=by
 unfold joinedFacts
 repeat' (with_reducible refine zvS ?_ ?_)
 all_goals (as_aux_lemma=>kernel_rfl)
set_option maxHeartbeats 4000000 in
theorem wrapper:Func.isWrapper Tryz.pinned.checked.prog Tryz.f6 Rows.replyInverseRow.wrapper Rows.replyInverseRow.mainSum:=by
 unfold Func.isWrapper
 first|(rw[if_pos (by decide +kernel)];kernel_rfl)|(rw[if_neg (by decide +kernel)];exact⟨rfl,rfl⟩)
theorem named:Tryz.pinned.checked.prog.funcNamed Rows.replyInverseRow.func=some 6:=by kernel_rfl
theorem said:Rows.ReplyInverseSaid:=
 OpenClaim.holds_of_cond 6 Tryz.f6 rfl rfl rfl rfl rfl rfl rfl ⟨rfl,rfl,rfl,rfl,rfl⟩ rfl rfl rfl rfl rfl named Tryz.func6 closed
  (of_decide_eq_true (by kernel_rfl)) wrapper
  (fun os started H enc _ F=>by rw[OpenClaim.pre_eq_preRow];exact lifted os started H enc F)
theorem plain(f:FuncId)(fn:Func)(hf:Tryz.pinned.checked.prog.funcNamed "cubbyhole/cubbyholelaw10.ReplyInverse" = some f) (hfn:Tryz.pinned.checked.prog.funcs[f]?=some fn):
  true=Tryz.pinned.checked.prog.looks []/\∀ (j:Nat) t,fn.params[j]?=some t->Tryz.pinned.checked.prog.wantsStandIn t=false:=by
 obtain rfl:f=6:=Option.some.inj ((show Tryz.prog.funcNamed "cubbyhole/cubbyholelaw10.ReplyInverse" = some 6 by kernel_rfl).symm.trans hf) |>.symm
 obtain rfl:fn=Tryz.f6:=(Option.some.inj (Tryz.func6.symm.trans hfn)).symm
 refine⟨by kernel_rfl,fun j t ht=>?_⟩
 have hall:(Tryz.f6.params.toList.all fun t=>!(Tryz.prog.wantsStandIn t))=true:=by kernel_rfl
 have:=List.all_eq_true.1 hall t (by rw[Array.mem_toList_iff];exact Array.mem_of_getElem? ht)
 show Tryz.prog.wantsStandIn t=false
 simpa using this
theorem replyInverse_holds:Rows.ReplyInverseCardSaid:=
 Claim7.holds_tied_plain_at .later [] _ _ _ _ said (fun _ h=>by cases h) (by kernel_rfl) (fun _ h=>by cases h) replyInverse_row_tie rfl ⟨rfl,rfl⟩ (by kernel_rfl) rfl plain (by kernel_rfl)
#print axioms replyInverse_holds
end Go.Proofs.YtljnndccimlnlaaGreatDoor
