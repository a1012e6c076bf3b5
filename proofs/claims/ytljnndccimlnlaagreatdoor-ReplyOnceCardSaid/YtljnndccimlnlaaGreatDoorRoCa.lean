/- ReplyOnce: for all arguments the law returns true, and the arguments are left as they were. Conditions: the listed package variables hold what the program's text lays. -/
import Derived.Test.YtljnndccimlnlaaGreatDoorRoLy
import Derived.Test.YtljnndccimlnlaaGreatDoorCards
import Derived.Test.YtljnndccimlnlaaGreatDoorTie
import Derived.Test.YtljnndccimlnlaaGreatDoorRoPi
import Derived.Test.YtljnndccimlnlaaGreatDoorRoWi
import Derived.Test.YtljnndccimlnlaaGreatDoorRoLa
import Derived.WalkKit
import Derived.ProofKit
import Derived.OpenShut
import Derived.Deep.DeepHandedRow
set_option linter.unusedVariables false
namespace Go.Proofs.YtljnndccimlnlaaGreatDoor
open Go.Proofs.Model Go Go.Gx Go.Mx Go.Sx Go.ChangeShapes Go.WideShapes Go.ChangeAt Go.RowKit
theorem rgl {hgl:zk} (h:zn3 hgl) (E:List Blk):RGl Tryz.prog glA ⟨hgl ++ E,PhA (hgl ++ E),[],[]⟩:=ztf h.gl (of_decide_eq_true (by kernel_rfl)) E
theorem zt1 {hgl:zk} {Gg:Gh} (h:zn3 hgl):HOK Tryz.prog hgl Gg (qe (zlJ tab) 7 zol):=zft (zmJ tab xfn) fun B W0 hL args h0 r hr=>by
 cases args with
 | nil=>
  cases hr
  obtain ⟨h',hc⟩:=zlz h.a7
  exact zjv hmo hng (zmJ tab xfn) hL hc rfl rfl
 | cons=>cases hr
theorem ztT {hgl:zk} {Gg:Gh} (h:zn3 hgl):HOK Tryz.prog hgl Gg (qe (qe (zlJ tab) 7 zol) 37 zda):=zft (zt1 h) fun B W0 hL args h0 r hr=>by obtain ⟨lo,hi,hiv⟩:=h.iv;exact zmo Tryz.zrn (hL.iv (of_decide_eq_true (by kernel_rfl)) hiv) hr
theorem zt5 {hgl:zk} {Gg:Gh} (h:zn3 hgl):HOK Tryz.prog hgl Gg (qe (qe (qe (zlJ tab) 7 zol) 37 zda) 81 ziz):=zft (ztT h) fun B W0 hL args h0 r hr=>by exact zoO Tryz.zrL Tryz.zsF hr
theorem zuh {hgl:zk} {Gg:Gh} (h:zn3 hgl):HOK Tryz.prog hgl Gg (qe (qe (qe (qe (zlJ tab) 7 zol) 37 zda) 81 ziz) 95 zfT):=zft (zt5 h) fun B W0 hL args h0 r hr=>by exact zml Tryz.zoK (hL.opq (of_decide_eq_true (by kernel_rfl)) h.e1) (hL.opq (of_decide_eq_true (by kernel_rfl)) h.e2) hr
theorem ztH {hgl:zk} {Gg:Gh} (h:zn3 hgl):HOK Tryz.prog hgl Gg (qe (qe (qe (qe (qe (zlJ tab) 7 zol) 37 zda) 81 ziz) 95 zfT) 124 (zgz 9)):=zft (zuh h) fun B W0 hL args h0 r hr=>by obtain ⟨lo,hi,hiv⟩:=h.iv;exact znq Tryz.zrC (by kernel_rfl) (hL.iv (of_decide_eq_true (by kernel_rfl)) hiv) hr
theorem zvo {hgl:zk} {Gg:Gh} (h:zn3 hgl):HOK Tryz.prog hgl Gg hkA:=ztH h
set_option maxRecDepth 100000 in
theorem zo4 (H:Type) (enc:TypeId × Value -> H) (W:World) (args:Array Value) (ds gs:List (DataW H)) (before:List MemPlace) (base:Nat)
  (hval:∀ (j:Nat) t v,Tryz.f5.params[j]?=some t -> args[j]?=some v -> Value.okWide Tryz.prog W .any base t v) (hW:DataW.Whole enc Tryz.prog Tryz.f5.params.toList Rows.replyOnceSpec.vars false W args.toList ds gs before) (hL:laidMetH Tryz.prog Rows.replyOnceRow.laid W) (hS:W.ShapedOpen Tryz.prog):
  Calls Tryz.prog 5 args W fun e W'=>∃ v,e=.returned v /\ Rows.replyOnceSpec.post enc Tryz.prog Tryz.f5 false true false false W args v W':=by
 have hW0:=hW
 obtain ⟨p,q,hA0,hV,rfl,hfz,hnd⟩:=hW
 have hA:DataW.TrodAll enc Tryz.prog W 0 (fun _=>true) true Tryz.f5.params.toList args.toList ds p:=hA0
 rw [Tryz.params5] at hA hval
 obtain ⟨v0,vs0,d0,ds0,p0,q0,hargs,rfl,_,r0⟩:=zkj hA
 obtain ⟨rfl,rfl⟩:=zkH r0
 obtain ⟨hgl,Gg,hLd,hal⟩:=ztZ hL hS
 obtain ⟨ps,hv,_⟩:=(show laidMet Tryz.prog Rows.replyOnceRow.laid W from hL)
 refine (zo2 (gl:=glA) (ct:=fun N=>zf4 (jE N)) (n:=1500) (pl:=jF) (us:=[(.sl .u8)]) (F:=fun N x=>qG N x.1) hmo hng (zvo hal) hLd (rgl hal) zbP zcu rfl zcj (ts:=[22]) (by kernel_rfl) hA
  (fun j t v h1 h2=>hval j t v (by simpa using h1) (by simpa using h2)) (zgE hv rfl) law).mono ?_
 rintro e W' ⟨rfl,hg⟩
 exact ⟨_,rfl,zmv lo mr full (by kernel_rfl) (tb:=4) (by kernel_rfl) (by kernel_rfl) rfl rfl hW0 hg⟩
theorem reads (os:Os) {H:Type} (enc:TypeId × Value -> H):∃ places,DataW.whole enc Tryz.prog ((qV os).forCall (fun _ _=>0) ⟨#[],#[Value.slice none 0 0],[]⟩).memory Tryz.f5.params.toList Rows.replyOnceSpec.vars false #[Value.slice none 0 0].toList 8=some ([.nil],[],places):=
 ⟨[],by kernel_rfl⟩
set_option maxRecDepth 100000 in
theorem lifted (os:Os) (started:os.Started) (H:Type) (enc:TypeId × Value -> H) (F:Stop.Interp):
  ReturnsInHanded {} Tryz.checked os 5 .any ((OpenSpec.ofChange Rows.replyOnceSpec).preRow enc Tryz.prog Tryz.f5 Rows.replyOnceRow.domain false Rows.replyOnceRow.laid) (((OpenSpec.ofChange Rows.replyOnceSpec).at F).post enc Tryz.prog Tryz.f5 false true false false):=by
 obtain ⟨places,hx⟩:=reads os enc
 refine returnsInHanded_of_row (C:=Tryz.checked) (s:=OpenSpec.ofChange Rows.replyOnceSpec) own started (by kernel_rfl) Tryz.func5
  (witness_row_atRef (enc:=enc) (C:=Tryz.checked) false (qV os) #[Value.slice none 0 0] rfl (by kernel_rfl) (by kernel_rfl) (by kernel_rfl)
   (OpenSpec.preRow_of_cond 8 hx (by kernel_rfl) (fun k hk=>by cases hk) (by kernel_rfl) (zoM os _))) ?_
 intro W base args ds gs before hval hW _ _ _ hL hS _
 exact zo4 H enc W args ds gs before base hval hW hL hS
theorem zvg {a b:Bool} (h:a=true) (k:b=true):(a && b)=true:=by rw [h,k];rfl
set_option maxRecDepth 100000 in
set_option maxHeartbeats 4000000 in
theorem closed:joinedFacts Tryz.pinned.checked.prog 5 Tryz.f5 (OpenSpec.ofChange Rows.replyOnceSpec).bare Rows.replyOnceRow=true:=by
 unfold joinedFacts
 repeat' (with_reducible refine zvg ?_ ?_)
 all_goals (as_aux_lemma=>kernel_rfl)
set_option maxHeartbeats 4000000 in
theorem wrapper:Func.isWrapper Tryz.pinned.checked.prog Tryz.f5 Rows.replyOnceRow.wrapper Rows.replyOnceRow.mainSum:=by
 unfold Func.isWrapper
 first | (rw [if_pos (by decide +kernel)];kernel_rfl) | (rw [if_neg (by decide +kernel)];exact ⟨rfl,rfl⟩)
theorem named:Tryz.pinned.checked.prog.funcNamed Rows.replyOnceRow.func=some 5:=by kernel_rfl
theorem said:Rows.ReplyOnceSaid:=
 OpenClaim.holds_of_cond 5 Tryz.f5 rfl rfl rfl rfl rfl rfl rfl ⟨rfl,rfl,rfl,rfl,rfl⟩ rfl rfl rfl rfl rfl named Tryz.func5 closed
  (of_decide_eq_true (by kernel_rfl)) wrapper
  (fun os started H enc _ F=>by rw [OpenClaim.pre_eq_preRow];exact lifted os started H enc F)
theorem plain (f:FuncId) (fn:Func) (hf:Tryz.pinned.checked.prog.funcNamed "cubbyhole/cubbyholelaw10.ReplyOnce" = some f) (hfn:Tryz.pinned.checked.prog.funcs[f]?=some fn):
  true=Tryz.pinned.checked.prog.looks [] /\ ∀ (j:Nat) t,fn.params[j]?=some t -> Tryz.pinned.checked.prog.wantsStandIn t=false:=by
 obtain rfl:f=5:=Option.some.inj ((show Tryz.prog.funcNamed "cubbyhole/cubbyholelaw10.ReplyOnce" = some 5 by kernel_rfl).symm.trans hf) |>.symm
 obtain rfl:fn=Tryz.f5:=(Option.some.inj (Tryz.func5.symm.trans hfn)).symm
 refine ⟨by kernel_rfl,fun j t ht=>?_⟩
 have hall:(Tryz.f5.params.toList.all fun t=>!(Tryz.prog.wantsStandIn t))=true:=by kernel_rfl
 have:=List.all_eq_true.1 hall t (by rw [Array.mem_toList_iff];exact Array.mem_of_getElem? ht)
 show Tryz.prog.wantsStandIn t=false
 simpa using this
theorem replyOnce_holds:Rows.ReplyOnceCardSaid:=
 Claim7.holds_tied_plain_at .later [] _ _ _ _ said (fun _ h=>by cases h) (by kernel_rfl) (fun _ h=>by cases h) replyOnce_row_tie rfl ⟨rfl,rfl⟩ (by kernel_rfl) rfl plain (by kernel_rfl)
#print axioms replyOnce_holds
end Go.Proofs.YtljnndccimlnlaaGreatDoor
