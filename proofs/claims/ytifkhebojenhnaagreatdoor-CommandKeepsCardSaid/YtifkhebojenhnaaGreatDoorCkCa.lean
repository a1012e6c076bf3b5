/- CommandKeeps: for all arguments the law returns true, and the arguments are left as they were. Conditions: the listed package variables hold what the program's text lays. -/
import Derived.Test.YtifkhebojenhnaaGreatDoorCkLy
import Derived.Test.YtifkhebojenhnaaGreatDoorCards
import Derived.Test.YtifkhebojenhnaaGreatDoorTie
import Derived.Test.YtifkhebojenhnaaGreatDoorCkPi
import Derived.Test.YtifkhebojenhnaaGreatDoorCkWi
import Derived.Test.YtifkhebojenhnaaGreatDoorCkLa
import Derived.WalkKit
import Derived.ProofKit
import Derived.OpenShut
import Derived.Deep.DeepHandedRow
set_option linter.unusedVariables false
namespace Go.Proofs.YtifkhebojenhnaaGreatDoor
open Go.Proofs.Model Go Go.Gx Go.Mx Go.Sx Go.ChangeShapes Go.WideShapes Go.ChangeAt Go.RowKit
theorem rgl{hgl:zf}(h:zqC hgl)(E:List Blk):RGl Tryz.prog glA ⟨hgl++E,PhA (hgl++E),[],[]⟩:=ztJ h.gl (of_decide_eq_true (by kernel_rfl)) E
theorem zuX{hgl:zf}{Gg:Gh}(h:zqC hgl):HOK Tryz.prog hgl Gg (ki (zo8 tab) 4 zsI):=zkf (znr tab xfn) fun B W0 hL args h0 r hr=>by
 cases args with
 |nil=>
  cases hr
  obtain⟨h',hc⟩:=zmm h.a4
  exact zjX hmo hng (znr tab xfn) hL hc rfl rfl
 |cons=>cases hr
theorem zuY{hgl:zf}{Gg:Gh}(h:zqC hgl):HOK Tryz.prog hgl Gg (ki (ki (zo8 tab) 4 zsI) 97 (zgj 9)):=zkf (zuX h) fun B W0 hL args h0 r hr=>by obtain⟨lo,hi,hiv⟩:=h.iv;exact zoK Tryz.zrW (by kernel_rfl) (hL.iv (of_decide_eq_true (by kernel_rfl)) hiv) hr
theorem zuZ{hgl:zf}{Gg:Gh}(h:zqC hgl):HOK Tryz.prog hgl Gg (ki (ki (ki (zo8 tab) 4 zsI) 97 (zgj 9)) 115 zg8):=zkf (zuY h) fun B W0 hL args h0 r hr=>by exact zn6 Tryz.zpz (hL.opq (of_decide_eq_true (by kernel_rfl)) h.e1) (hL.opq (of_decide_eq_true (by kernel_rfl)) h.e2) hr
theorem zwt{hgl:zf}{Gg:Gh}(h:zqC hgl):HOK Tryz.prog hgl Gg hkA:=zuZ h
set_option maxRecDepth 100000 in
theorem zpn(H:Type)(enc:TypeId×Value->H)(W:World)(args:Array Value)(ds gs:List (DataW H))(before:List MemPlace)(base:Nat)
  (hval:∀ (j:Nat) t v,Tryz.f3.params[j]?=some t->args[j]?=some v->Value.okWide Tryz.prog W .any base t v) (hW:DataW.Whole enc Tryz.prog Tryz.f3.params.toList Rows.commandKeepsSpec.vars false W args.toList ds gs before) (hL:laidMetH Tryz.prog Rows.commandKeepsRow.laid W) (hS:W.ShapedOpen Tryz.prog):
  Calls Tryz.prog 3 args W fun e W'=>∃ v,e=.returned v/\Rows.commandKeepsSpec.post enc Tryz.prog Tryz.f3 false true false false W args v W':=by
 have hW0:=hW
 obtain⟨p,q,hA0,hV,rfl,hfz,hnd⟩:=hW
 have hA:DataW.TrodAll enc Tryz.prog W 0 (fun _=>true) true Tryz.f3.params.toList args.toList ds p:=hA0
 rw[Tryz.params3] at hA hval
 obtain⟨v0,vs0,d0,ds0,p0,q0,hargs,rfl,_,r0⟩:=zlM hA
 obtain⟨rfl,rfl⟩:=zlL r0
 obtain⟨hgl,Gg,hLd,hal⟩:=zu4 hL hS
 obtain⟨ps,hv,_⟩:=(show laidMet Tryz.prog Rows.commandKeepsRow.laid W from hL)
 refine(zpy (gl:=glA) (ct:=fun N=>zhk (jg N)) (n:=1500) (pl:=jh) (us:=[(.sl .u8)]) (F:=fun N x=>qj N x.1) hmo hng (zwt hal) hLd (rgl hal) zbi zbN rfl zbO (ts:=[22]) (by kernel_rfl) hA
  (fun j t v h1 h2=>hval j t v (by simpa using h1) (by simpa using h2)) (zg0 hv rfl) law).mono ?_
 rintro e W' ⟨rfl,hg⟩
 exact⟨_,rfl,zob lo mr full (by kernel_rfl) (tb:=4) (by kernel_rfl) (by kernel_rfl) rfl rfl hW0 hg⟩
theorem reads(os:Os){H:Type}(enc:TypeId×Value->H):∃ places,DataW.whole enc Tryz.prog ((js os).forCall (fun _ _=>0) ⟨#[],#[Value.slice none 0 0],[]⟩).memory Tryz.f3.params.toList Rows.commandKeepsSpec.vars false #[Value.slice none 0 0].toList 8=some ([.nil],[],places):=
 ⟨[],by kernel_rfl⟩
set_option maxRecDepth 100000 in
theorem lifted(os:Os)(started:os.Started)(H:Type)(enc:TypeId×Value->H)(F:Stop.Interp):
  ReturnsInHanded {} Tryz.checked os 3 .any ((OpenSpec.ofChange Rows.commandKeepsSpec).preRow enc Tryz.prog Tryz.f3 Rows.commandKeepsRow.domain false Rows.commandKeepsRow.laid) (((OpenSpec.ofChange Rows.commandKeepsSpec).at F).post enc Tryz.prog Tryz.f3 false true false false):=by
 obtain⟨places,hx⟩:=reads os enc
 refine returnsInHanded_of_row (C:=Tryz.checked) (s:=OpenSpec.ofChange Rows.commandKeepsSpec) own started (by kernel_rfl) Tryz.func3
  (witness_row_atRef (enc:=enc) (C:=Tryz.checked) false (js os) #[Value.slice none 0 0] rfl (by kernel_rfl) (by kernel_rfl) (by kernel_rfl)
   (OpenSpec.preRow_of_cond 8 hx (by kernel_rfl) (fun k hk=>by cases hk) (by kernel_rfl) (zpw os _))) ?_
 intro W base args ds gs before hval hW _ _ _ hL hS _
 exact zpn H enc W args ds gs before base hval hW hL hS
theorem zv2{a b:Bool}(h:a=true)(k:b=true):(a&&b)=true:=by rw[h,k];rfl
set_option maxRecDepth 100000 in
set_option maxHeartbeats 4000000 in
theorem closed:joinedFacts Tryz.pinned.checked.prog 3 Tryz.f3 (OpenSpec.ofChange Rows.commandKeepsSpec).bare Rows.commandKeepsRow=true:=by
 unfold joinedFacts
 repeat' (with_reducible refine zv2 ?_ ?_)
 all_goals (as_aux_lemma=>kernel_rfl)
set_option maxHeartbeats 4000000 in
theorem wrapper:Func.isWrapper Tryz.pinned.checked.prog Tryz.f3 Rows.commandKeepsRow.wrapper Rows.commandKeepsRow.mainSum:=by
 unfold Func.isWrapper
 first|(rw[if_pos (by decide +kernel)];kernel_rfl)|(rw[if_neg (by decide +kernel)];exact⟨rfl,rfl⟩)
theorem named:Tryz.pinned.checked.prog.funcNamed Rows.commandKeepsRow.func=some 3:=by kernel_rfl
theorem said:Rows.CommandKeepsSaid:=
 OpenClaim.holds_of_cond 3 Tryz.f3 rfl rfl rfl rfl rfl rfl rfl ⟨rfl,rfl,rfl,rfl,rfl⟩ rfl rfl rfl rfl rfl named Tryz.func3 closed
  (of_decide_eq_true (by kernel_rfl)) wrapper
  (fun os started H enc _ F=>by rw[OpenClaim.pre_eq_preRow];exact lifted os started H enc F)
theorem plain(f:FuncId)(fn:Func)(hf:Tryz.pinned.checked.prog.funcNamed "cubbyhole/cubbyholelaw07.CommandKeeps" = some f) (hfn:Tryz.pinned.checked.prog.funcs[f]?=some fn):
  true=Tryz.pinned.checked.prog.looks []/\∀ (j:Nat) t,fn.params[j]?=some t->Tryz.pinned.checked.prog.wantsStandIn t=false:=by
 obtain rfl:f=3:=Option.some.inj ((show Tryz.prog.funcNamed "cubbyhole/cubbyholelaw07.CommandKeeps" = some 3 by kernel_rfl).symm.trans hf) |>.symm
 obtain rfl:fn=Tryz.f3:=(Option.some.inj (Tryz.func3.symm.trans hfn)).symm
 refine⟨by kernel_rfl,fun j t ht=>?_⟩
 have hall:(Tryz.f3.params.toList.all fun t=>!(Tryz.prog.wantsStandIn t))=true:=by kernel_rfl
 have:=List.all_eq_true.1 hall t (by rw[Array.mem_toList_iff];exact Array.mem_of_getElem? ht)
 show Tryz.prog.wantsStandIn t=false
 simpa using this
theorem commandKeeps_holds:Rows.CommandKeepsCardSaid:=
 Claim7.holds_tied_plain_at .later [] _ _ _ _ said (fun _ h=>by cases h) (by kernel_rfl) (fun _ h=>by cases h) commandKeeps_row_tie rfl ⟨rfl,rfl⟩ (by kernel_rfl) rfl plain (by kernel_rfl)
#print axioms commandKeeps_holds
end Go.Proofs.YtifkhebojenhnaaGreatDoor
