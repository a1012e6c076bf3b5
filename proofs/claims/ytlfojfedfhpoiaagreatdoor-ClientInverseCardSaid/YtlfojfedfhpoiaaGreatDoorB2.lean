/- Machines and laws 2. -/
import Derived.Test.YtlfojfedfhpoiaaGreatDoorB1
import Derived.RecoverIn
import Derived.Lib.MakeNoZero
import Derived.Laws.Externs
import Derived.Laws.LoneSync
import Derived.Lib.Bytealg
open List renaming casesOn->ya,getElem?_eq_some_iff->yc,getElem?_eq_getElem->yf,getElem?_append_right->yi,replicate->yn,getElem?_set_ne->yp,getElem?_append_left->yq,getElem?_set_self->yr,length_append->yu,length_take->yx,length_eq_zero_iff->yy,drop_drop->yz,take_of_length_le->yA,length_drop->yD,drop_eq_getElem_cons->yE,drop_take->yH,take_take->yI,getElem?_map->yL,take_append_of_le_length->yM,length_set->yN,drop_zero->yO,getD_eq_getElem?_getD->yP,getElem?_take->yR,getElem?_drop->yS,ext_getElem?->yV,append_assoc->yW,drop_of_length_le->yX,range->vd,length_cons->ve,length->vg,getElem?_set->vk,drop_append->vl,length_eq_one_iff->vn,nil_append->vo,append_nil->vp,length_map->vq,map_append->vt,take_append_drop->vu,getElem?_eq_none->vv,map_set->vC,drop_append_of_le_length->vF,length_nil->vI,getElem?_take_of_lt->vK,map_cons->vL,getElem?_replicate->vN,length_replicate->vQ,size_toArray->vX,all_append->vZ,all_cons->uf
open Nat renaming le_refl->yb,mul_le_mul_right->yj,le_of_ble_eq_true->yk,blt->ym,beq->yo,succ_mul->yv,min_eq_left->yw,casesOn->yB,sub_self->yC,lt_of_lt_of_le->yF,zero_add->yG,add_zero->yJ,eq_of_beq_eq_true->yK,ble->yQ,add_mul->yT,mul_one->yU,zero_mul->vj,zero_le->vy,lt_irrefl->vz,add_assoc->vA,add_sub_cancel->vB,le_trans->vD,le_succ->vH,blt_eq->vJ,add_eq_zero_iff->vV,le_antisymm->uc,min_le_left->ue,le_zero_eq->ug,add_comm->uh,sub_mul->ui
open Option.some renaming injEq->yd,inj->yY
open Bool renaming and_eq_true->ye,casesOn->yg,or_eq_true->vG
open Prod.mk renaming injEq->yh
open Array renaming getElem?_toList->yZ,getD_eq_getD_getElem?->vi,toArray_toList->vw,replicate->vE,toList_replicate->vM,toList_append->vR,ext'->vT
open Go.IntKind renaming bits->vh,wrap_u8->vm
open UInt8 renaming lt_iff_toNat_lt->vO,le_iff_toNat_le->vP,toNat_sub->vY
open List.cons renaming injEq->vS,inj->vU
set_option linter.unusedVariables false
set_option linter.unusedSimpArgs false
set_option linter.unusedSectionVars false
namespace Go.Mx
open Go Go.Gx
def zkW(p:Option Code)(st:St):Option (Ex×St):=match p with
 |none=>some (.normal,st)
 |some .ret=>some (.ret,st)
 |some (.exit id)=>some (.exit id,st)
 |_=>none
def kk(l:Nat)(env:Arr AV)(dl:List Dfd)(rnd:Option Nat):Option CR->Option (Ex×St)
 |some (.ret _ h2)=>match h2[l]? with
  |some (.loop e2 ps asg body s p)=>match s with
   |.busy=>none
   |_=>zkW p ⟨env,h2.set l (.loop e2 ps asg body .exhausted p),dl,rnd⟩
  |_=>none
 |some (.pan v h2)=>some (.panic v,⟨env,h2,dl,rnd⟩)
 |none=>none
def zfV(P:Program)(call:Cal->List AV->zg->Option CR)(g:Operand)(ps:Array Tmp)(asg body:Code)(st:St):Option (Ex×St):=
 match mev P st.env st.h g with
 |some (.fn f first cap)=>if((P.funcs[f]?).bind (·.body)).isSome=true then match st.rnd with
  |none=>kk (st.h.length+1) st.env (.mark st.h.length::st.dl) none (call (.f f) (first++[.yld (st.h.length+1)]++cap) (st.h++[Blk.dfr]++[Blk.loop st.env ps asg body .ready none]))
  |some lo=>match st.h[lo]? with
   |some (.loop ..)=>kk st.h.length st.env st.dl (some lo) (call (.f f) (first++[.yld st.h.length]++cap) (st.h++[Blk.loop st.env ps asg body .ready none]))
   |_=>none
  else none
 |_=>none
def qB(P:Program)(qs:FuncId->Bool)(run:Code->St->Option (Ex×St))(call:Cal->List AV->zg->Option CR):Code->St->Option (Ex×St)
 |.skip,st=>some (.normal,st)
 |.label _,st=>some (.normal,st)
 |.ret,st=>some (.ret,st)
 |.exit id,st=>some (.exit id,st)
 |.region _ ops false,st=>zji st.rnd (zdB P call ops st.rnd ops.toList st.env st.h st.dl)
 |.region _ ops true,st=>zji st.rnd (zat P (zhw P qs ops.toList) call ops.toList st.env st.h st.dl)
 |.seq a b,st=>match run a st with
  |some (.normal,st')=>run b st'
  |r=>r
 |.cond c a b,st=>match mev P st.env st.h c with
  |some (.bool true)=>run a st
  |some (.bool false)=>run b st
  |_=>none
 |.block id c,st=>match run c st with
  |some (.exit id',st')=>if id'=id then some (.normal,st') else some (.exit id',st')
  |r=>r
 |.loop c,st=>match run c st with
  |some (.normal,st')=>run (.loop c) st'
  |r=>r
 |.rangeFunc g ps asg body,st=>zfV P call g ps asg body st
 |_,_=>none
def zmk(P:Program)(env:Arr AV)(h:zg):List ResultVar->Option (List AV)
 | []=>some []
 |.tmp t::l=>match env[t]?,zmk P env h l with
  |some v,some vs=>some (v::vs)
  |_,_=>none
 |.cell a T::l=>match env[a]?,zmk P env h l with
  |some (.ptr loc off ver lim),some vs=>match zlp P T,zcC P T with
   |some true,some n=>match rd h loc off ver lim n with|some cs=>some (.agg cs::vs)|none=>none
   |some false,_=>match rd h loc off ver lim 1 with|some [v]=>some (v::vs)|_=>none
   |_,_=>none
  |_,_=>none
def zsf:List AV->AV
 | [v]=>v
 |vs=>.tup vs
def mstart(run:Code->St->Option (Ex×St))(fn:Func)(args:List AV)(h:zg):Option (Ex×St):=
 match fn.body with
 |some c=>if args.length<=fn.ntmps then run c ⟨Arr.of (args++yn (fn.ntmps-args.length) .undef),h,[],none⟩ else none
 |none=>none
inductive Pn where
 |no|up (v:AV)|re (v:AV)
def Pn.settle:Pn->Pn
 |.re _=>.no
 |p=>p
def Pn.got:Pn->AV
 |.up v=>v
 |_=>.zer
def Pn.zfw:Pn->Pn
 |.up v=>.re v
 |p=>p
def isRec(o:Oper):Bool:=match o.op,o.guard with
 |.call c,none=>match c.callee with
  |.builtin .recover=>true
  |_=>false
 |_,_=>false
def zgi(pn:Pn):Option (Ex×St)->Option (Ex×St×Pn)
 |some (e,st)=>some (e,st,pn)
 |none=>none
def mdc(run:Code->St->Option (Ex×St)):Code->St->Pn->Option (Ex×St×Pn)
 |.seq a b,st,pn=>match mdc run a st pn with
  |some (.normal,st',pn')=>mdc run b st' pn'
  |r=>r
 |.region id ops false,st,pn=>match ops.toList with
  | [o]=>match isRec o with
   |true=>match zjp st.env o.dst pn.got with
    |some env'=>some (.normal,⟨env',st.h,st.dl,st.rnd⟩,pn.zfw)
    |none=>none
   |false=>zgi pn (run (.region id ops false) st)
  |_=>zgi pn (run (.region id ops false) st)
 |c,st,pn=>zgi pn (run c st)
def zb4(P:Program)(run:Code->St->Option (Ex×St))(f:FuncId)(args:List AV)(h:zg)(pn:Pn):Option (zg×Pn):=
 match P.funcs[f]? with
 |some fn=>match fn.body with
  |some c=>if args.length<=fn.ntmps then match mdc run c ⟨Arr.of (args++yn (fn.ntmps-args.length) .undef),h,[],none⟩ pn with
   |some (.normal,st,pn')=>match st.dl,zmk P st.env st.h fn.results.toList with | [],some _=>some (st.h,pn')|_,_=>none
   |some (.ret,st,pn')=>match st.dl,zmk P st.env st.h fn.results.toList with | [],some _=>some (st.h,pn')|_,_=>none
   |_=>none
   else none
  |none=>none
 |none=>none
def mleave(dcall:FuncId->List AV->zg->Pn->Option (zg×Pn)):List Dfd->zg->Pn->Option (zg×Pn)
 | [],h,pn=>some (h,pn)
 |.mark loc::l,h,pn=>match h[loc]? with
  |some .dfr=>mleave dcall l (h.set loc .gone) pn
  |_=>none
 |.call f args cap::l,h,pn=>match dcall f (args++cap) h pn with
  |some (h',pn')=>mleave dcall l h' pn'.settle
  |none=>none
def zna(P:Program)(fn:Func)(env:Arr AV):Option (zg×Pn)->Option CR
 |some (h,.no)=>match zmk P env h fn.results.toList with
  |some vs=>some (.ret (zsf vs) h)
  |none=>none
 |some (h,.up v)=>some (.pan v h)
 |_=>none
def zfQ(P:Program)(run:Code->St->Option (Ex×St))(f:FuncId)(args:List AV)(h:zg):Option CR:=
 match P.funcs[f]? with
 |some fn=>match mstart run fn args h with
  |some (.normal,st)=>zna P fn st.env (mleave (zb4 P run) st.dl st.h .no)
  |some (.ret,st)=>zna P fn st.env (mleave (zb4 P run) st.dl st.h .no)
  |some (.panic v,st)=>zna P fn st.env (mleave (zb4 P run) st.dl st.h (.up v))
  |_=>none
 |none=>none
def ziy(loc:Nat)(h:zg)(e:Ex):Option CR:=match h[loc]? with
 |some (.loop env ps asg body _ _)=>match e with
  |.normal=>some (.ret (.bool true) (h.set loc (.loop env ps asg body .ready none)))
  |.ret=>some (.ret (.bool false) (h.set loc (.loop env ps asg body .done (some .ret))))
  |.exit id=>some (.ret (.bool false) (h.set loc (.loop env ps asg body .done (some (.exit id)))))
  |.panic _=>none
 |_=>none
def zw2(run:Code->St->Option (Ex×St))(loc:Nat)(body:Code)(st:St):Option CR:=match st.h[loc]? with
 |some (.loop e2 p2 a2 b2 .ready pd)=>match run body ⟨st.env,st.h.set loc (.loop e2 p2 a2 b2 .busy pd),st.dl,some loc⟩ with
  |some (e,st2)=>ziy loc st2.h e
  |none=>none
 |_=>none
def zpd(run:Code->St->Option (Ex×St))(loc:Nat)(args:List AV)(h:zg):Option CR:=match h[loc]? with
 |some (.loop env ps asg body _ _)=>if args.length=ps.size then
   match run asg ⟨(ps.toList.zip args).foldl (fun e p=>e.set p.1 p.2) env,h,[],some loc⟩ with
   |some (.normal,st)=>zw2 run loc body st
   |_=>none
  else none
 |_=>none
def jU(P:Program)(hk:wJ)(run:Code->St->Option (Ex×St))(c:Cal)(args:List AV)(h:zg):Option CR:=
 match c with
 |.f f=>match hk f with
  |some g=>g args h
  |none=>zfQ P run f args h
 |.y loc=>zpd run loc args h
def qfn(P:Program)(hk:wJ):Nat->FuncId->Bool
 |0,_=>false
 |n+1,f=>match hk f,P.funcs[f]? with
  |none,some fn=>match fn.body with
   |some c=>zmC P (qfn P hk n) c
   |none=>false
  |_,_=>false
def jO(P:Program)(hk:wJ):Nat->Code->St->Option (Ex×St)
 |0,_,_=>none
 |n+1,c,st=>qB P (qfn P hk 4) (jO P hk n) (jU P hk (jO P hk n)) c st
def RQ(P:Program)(q:FuncId->Bool)(run:Code->St->Option (Ex×St)):Prop:=∀ (c:Code) (st:St) (e:Ex) (st':St),zmC P q c=true->run c st=some (e,st') ->
 ∃ env',st'=⟨env',st.h,st.dl,st.rnd⟩/\(∀ v,e≠.panic v)/\∀ h2,Ext st.h h2->run c ⟨st.env,h2,st.dl,st.rnd⟩=some (e,⟨env',h2,st.dl,st.rnd⟩)
theorem zw3{P:Program}{q qs:FuncId->Bool}{run:Code->St->Option (Ex×St)}{call:Cal->List AV->zg->Option CR}(hc:QC call q)(hr:RQ P q run):RQ P q (qB P qs run call):=by
 intro c st e st' hq hm
 obtain⟨env,h,dl,rnd⟩:=st
 cases c<;>first|(cases hq;done)|skip
 case skip=>cases hm;exact⟨_,rfl,(fun v h=>nomatch h),fun h2 _=>rfl⟩
 case label=>cases hm;exact⟨_,rfl,(fun v h=>nomatch h),fun h2 _=>rfl⟩
 case ret=>cases hm;exact⟨_,rfl,(fun v h=>nomatch h),fun h2 _=>rfl⟩
 case exit=>cases hm;exact⟨_,rfl,(fun v h=>nomatch h),fun h2 _=>rfl⟩
 case region id ops b=>
  cases b with
  |true=>
   unfold qB at hm |-
   dsimp only at hm |-
   cases hmo:zat P (zhw P qs ops.toList) call ops.toList env h dl with
   |none=>rw[hmo] at hm;cases hm
   |some r=>
    rw[hmo] at hm
    obtain⟨env',rfl,h1⟩:=zue hq hmo
    cases hm
    exact⟨_,rfl,(fun v h=>nomatch h),fun h2 hx=>by rw[h1 h2 hx];rfl⟩
  |false=>
   unfold qB at hm |-
   dsimp only at hm |-
   cases hmo:zdB P call ops rnd ops.toList env h dl with
   |none=>rw[hmo] at hm;cases hm
   |some r=>
    rw[hmo] at hm
    obtain⟨env',rfl,h1⟩:=zr4 hc hq hmo
    cases hm
    exact⟨_,rfl,(fun v h=>nomatch h),fun h2 hx=>by rw[h1 h2 hx];rfl⟩
 case seq a b=>
  simp only[zmC,ye] at hq
  unfold qB at hm |-
  dsimp only at hm |-
  cases ha:run a ⟨env,h,dl,rnd⟩ with
  |none=>rw[ha] at hm;cases hm
  |some x=>
   obtain⟨e1,st1⟩:=x
   rw[ha] at hm
   obtain⟨env1,rfl,h1,h2⟩:=hr a _ _ _ hq.1 ha
   cases e1 with
   |normal=>
    obtain⟨env2,rfl,h3,h4⟩:=hr b _ _ _ hq.2 hm
    exact⟨env2,rfl,h3,fun g hx=>by rw[h2 g hx];exact h4 g hx⟩
   |_=>cases hm;exact⟨env1,rfl,h1,fun g hx=>by rw[h2 g hx]⟩
 case cond x a b=>
  simp only[zmC,ye] at hq
  unfold qB at hm |-
  dsimp only at hm |-
  split at hm
  ·rename_i hx1
   obtain⟨env2,rfl,h3,h4⟩:=hr a _ _ _ hq.1 hm
   exact⟨env2,rfl,h3,fun g hx=>by rw[ze5 hx hx1];exact h4 g hx⟩
  ·rename_i hx1
   obtain⟨env2,rfl,h3,h4⟩:=hr b _ _ _ hq.2 hm
   exact⟨env2,rfl,h3,fun g hx=>by rw[ze5 hx hx1];exact h4 g hx⟩
  ·cases hm
 case block id c=>
  unfold qB at hm |-
  dsimp only at hm |-
  cases ha:run c ⟨env,h,dl,rnd⟩ with
  |none=>rw[ha] at hm;cases hm
  |some x=>
   obtain⟨e1,st1⟩:=x
   rw[ha] at hm
   obtain⟨env1,rfl,h1,h2⟩:=hr c _ _ _ hq ha
   cases e1 with
   |exit id'=>
    dsimp only at hm
    by_cases hi:id'=id
    ·rw[if_pos hi] at hm;cases hm
     exact⟨env1,rfl,(fun v h=>nomatch h),fun g hx=>by rw[h2 g hx];dsimp only;rw[if_pos hi]⟩
    ·rw[if_neg hi] at hm;cases hm
     exact⟨env1,rfl,h1,fun g hx=>by rw[h2 g hx];dsimp only;rw[if_neg hi]⟩
   |_=>cases hm;exact⟨env1,rfl,h1,fun g hx=>by rw[h2 g hx]⟩
 case loop c=>
  unfold qB at hm |-
  dsimp only at hm |-
  cases ha:run c ⟨env,h,dl,rnd⟩ with
  |none=>rw[ha] at hm;cases hm
  |some x=>
   obtain⟨e1,st1⟩:=x
   rw[ha] at hm
   obtain⟨env1,rfl,h1,h2⟩:=hr c _ _ _ hq ha
   cases e1 with
   |normal=>
    obtain⟨env2,rfl,h3,h4⟩:=hr (.loop c) _ _ _ hq hm
    exact⟨env2,rfl,h3,fun g hx=>by rw[h2 g hx];exact h4 g hx⟩
   |_=>cases hm;exact⟨env1,rfl,h1,fun g hx=>by rw[h2 g hx]⟩
theorem zkY{P:Program}{env:Arr AV}{h h2:zg}(hx:Ext h h2):∀ {l:List ResultVar} {vs:List AV},zmk P env h l=some vs->zmk P env h2 l=some vs
 | [],vs,hm=>hm
 |.tmp t::l,vs,hm=>by
  unfold zmk at hm |-
  split at hm
  ·rename_i h1 h2;rw[zkY hx h2];rw[h1];exact hm
  ·cases hm
 |.cell a T::l,vs,hm=>by
  unfold zmk at hm |-
  split at hm
  ·rename_i h1 h2;rw[zkY hx h2];rw[h1]
   dsimp only at hm |-
   split at hm
   ·split at hm
    ·rename_i h5;rw[zmF hx h5];exact hm
    ·cases hm
   ·split at hm
    ·rename_i h5;rw[zmF hx h5];exact hm
    ·cases hm
   ·cases hm
  ·cases hm
theorem zw1{P:Program}{q:FuncId->Bool}{run:Code->St->Option (Ex×St)}(hr:RQ P q run){f:FuncId}{fn:Func}{c:Code}(hf:P.funcs[f]?=some fn)(hb:fn.body=some c)(hq:zmC P q c=true)
  {args:List AV} {h:zg} {r:CR} (hm:zfQ P run f args h=some r):∃ v,r=.ret v h/\∀ h2,Ext h h2->zfQ P run f args h2=some (.ret v h2):=by
 unfold zfQ at hm |-
 rw[hf] at hm |-
 unfold mstart at hm |-
 dsimp only at hm |-
 rw[hb] at hm |-
 dsimp only at hm |-
 by_cases hl:args.length<=fn.ntmps
 ·rw[if_pos hl] at hm
  cases hrn:run c ⟨Arr.of (args++yn (fn.ntmps-args.length) .undef),h,[],none⟩ with
  |none=>rw[hrn] at hm;cases hm
  |some x=>
   obtain⟨e,st⟩:=x
   rw[hrn] at hm
   obtain⟨env',rfl,h1,h2⟩:=hr c _ _ _ hq hrn
   have key:zna P fn env' (some (h,.no))=some r->∃ v,r=.ret v h/\∀ h2,Ext h h2->zna P fn env' (some (h2,.no))=some (.ret v h2):=by
    intro hm
    unfold zna at hm |-
    dsimp only at hm |-
    split at hm
    ·rename_i h3;cases hm;exact⟨_,rfl,fun g hx=>by rw[zkY hx h3]⟩
    ·cases hm
   cases e with
   |normal=>
    obtain⟨v,h3,h4⟩:=key hm
    exact⟨v,h3,fun g hx=>by rw[if_pos hl,h2 g hx];exact h4 g hx⟩
   |ret=>
    obtain⟨v,h3,h4⟩:=key hm
    exact⟨v,h3,fun g hx=>by rw[if_pos hl,h2 g hx];exact h4 g hx⟩
   |exit id=>cases hm
   |panic v=>exact absurd rfl (h1 v)
 ·rw[if_neg hl] at hm;cases hm
theorem zzn{P:Program}{hk:wJ}{q:FuncId->Bool}(hc:∀ n,QC (jU P hk (jO P hk n)) q):∀ n,RQ P q (jO P hk n)
 |0=>fun c st e st' _ hm=>by cases hm
 |n+1=>fun c st e st' hq hm=>zw3 (hc n) (zzn hc n) c st e st' hq hm
theorem zmD{P:Program}{hk:wJ}:∀ k n,QC (jU P hk (jO P hk n)) (qfn P hk k)
 |0,n=>fun f hf=>by cases hf
 |k+1,n=>fun f hf args h r hm=>by
  unfold qfn at hf
  split at hf
  ·rename_i fn hh hfn
   split at hf
   ·rename_i c hb
    unfold jU at hm |-
    dsimp only at hm |-
    rw[hh] at hm |-
    exact zw1 (zzn (zmD k) n) hfn hb hf hm
   ·cases hf
  ·cases hf
def zpI(P:Program):Prop:=∀ (f:Nat) (fn:Func),P.funcs[f]?=some fn->(fn.name == "runtime.NumGoroutine")=false
theorem enters_of{P:Program}(hng:zpI P){f:FuncId}(h:((P.funcs[f]?).bind (·.body)).isSome=true):Enters P f:=by
 cases hf:P.funcs[f]? with
 |none=>rw[hf] at h;cases h
 |some fn=>
  rw[hf] at h
  cases hb:fn.body with
  |none=>simp [hb] at h
  |some c=>exact Enters.mk hf (hng f fn hf) (by rw[hb];rfl)
section
variable {P:Program} {B:Nat} {W0:World}
theorem Step.turn{G:Gh}{h:zg}{w:World}{loc:Nat}{blk blk':Blk}{r:Ver}{o:Obj}(hr:HR G B h w)(hl:h[loc]?=some blk)(hg:G[loc]?=some [r])(ho:blk.own=true)(ho':blk'.own=true)
  (hB:zqB G (w.putObj r.b o) blk' [r]):Step G G B (h.set loc blk') w (w.putObj r.b o):=by
 have hset:G.set loc [r]=G:=zcs hg
 have:=Step.upd (vs':=[r]) (w':=w.putObj r.b o) (blk':=blk') hr hl hg ho ho' ⟨0,r,rfl,rfl⟩ (Nat.le_of_eq World.putObj_size.symm) (fun k _ hk=>World.putObj_heap_other hk) rfl rfl rfl (fun v r' h=>h) (fun v r' h=>.inr ⟨v,r',h,rfl⟩) (fun _=>by rw[hset];exact hB)
 rwa [hset] at this
theorem zem{G:Gh}{h:zg}{w:World}{loc:Nat}{env:Arr AV}{ps:Array Tmp}{asg body:Code}{s:LoopState}{p:Option Code}{r:Ver}(hr:HR G B h w)(hl:h[loc]?=some (.loop env ps asg body s p))(hat:G.at loc 0=some r):
  G[loc]?=some [r]/\r.b<w.heap.size/\∃ L:Loop,w.heap[r.b]?=some (.loop L)/\L.state=s/\L.pending=p/\L.params=ps/\L.assign=asg/\L.body=body/\VL G env.toL L.tmps.toList:=by
 obtain⟨b,vs,hb,hg,hv,hR⟩:=hr.get hat
 rw[hl] at hb;cases hb
 rcases hR with rfl|⟨r0,rfl,L,h1⟩
 ·simp at hv
 ·simp at hv;subst hv
  exact⟨hg,hr.lt _ _ _ hat,L,h1⟩
theorem zd2{G:Gh}{h:zg}{w:World}{loc:Nat}{env:Arr AV}{ps:Array Tmp}{asg body:Code}{s:LoopState}{p:Option Code}{r:Ver}(hr:HR G B h w)(hl:h[loc]?=some (.loop env ps asg body s p))(hat:G.at loc 0=some r)(s':LoopState)(p':Option Code){L:Loop}(hL:w.heap[r.b]?=some (.loop L)):
  Step G G B (h.set loc (.loop env ps asg body s' p')) w (w.putObj r.b (.loop { L with state:=s',pending:=p' })):=by
 obtain⟨hg,hlt,L',h1,h2,h3,h4,h5,h6,h7⟩:=zem hr hl hat
 rw[hL] at h1;cases h1
 exact Step.turn hr hl hg rfl rfl (.inr ⟨r,rfl,_,World.putObj_heap_same hlt,rfl,rfl,h4,h5,h6,h7⟩)
theorem zft.trans{G G':Gh}{w w':World}{h':zg}{e:Ex}{st:St}{x:Exit}{a:Act}{w'':World}(hS:Step G G' B h' w w')(h:zft G' B w' e st x a w''):zft G B w e st x a w'':=by
 obtain⟨G2,S2,hx⟩:=h
 exact⟨G2,hS.trans S2,hx⟩
theorem zf8{F:Fence}{m:Nat}{c:Code}{Q Q':Exit->Act->World->Prop}(hq:∀ x a w,Q x a w->Q' x a w):∀ {n:Nat} {a:Act} {w:World},Code.roundsIn F m P c Q n a w->Code.roundsIn F m P c Q' n a w
 |0,_,_,h=>h
 |n+1,a,w,h=>by
  rw[roundsIn_succ] at h |-
  refine Go.wpIn_mono h fun x a w hx=>?_
  cases x with
  |normal=>exact zf8 hq hx
  |_=>exact hq _ _ _ hx
def zqH(P:Program)(B:Nat)(W0:World)(run:Code->St->Option (Ex×St))(n:Nat):Prop:=
 ∀ c st e st',run (.loop c) st=some (e,st')->∀ (G:Gh) (a:Act) (w:World) (b:Option Nat),AR G st.env st.dl a->HR G B st.h w->zgm P B W0 G w->RN G st.rnd b->Code.roundsIn (fen b) 0 P c (zft G B w e st') n a w
def zhp(run:Code->St->Option (Ex×St)):Prop:=∀ c st e st',run c st=some (e,st')->st'.rnd=st.rnd
theorem zl9{run:Code->St->Option (Ex×St)}(hrun:zhq P B W0 run)(hrnd:zhp run){n:Nat}(hloop:zqH P B W0 run n){c:Code}{st st':St}{e:Ex}(hc:(match run c st with|some (.normal,st')=>run (.loop c) st' | r=>r)=some (e,st'))
  {G:Gh} {a:Act} {w:World} {b:Option Nat} (ha:AR G st.env st.dl a) (hr:HR G B st.h w) (hg:zgm P B W0 G w) (hb:RN G st.rnd b):Code.roundsIn (fen b) 0 P c (zft G B w e st') (n+1) a w:=by
 rw[roundsIn_succ]
 cases h1:run c st with
 |none=>rw[h1] at hc;cases hc
 |some p=>
  obtain⟨e1,st1⟩:=p
  rw[h1] at hc
  refine Go.wpIn_mono (hrun c st e1 st1 h1 G a w b ha hr hg hb) fun ex a1 w1 hp=>?_
  obtain⟨G1,S1,hx⟩:=hp
  cases e1 with
  |normal=>
   obtain⟨rfl,hA⟩:=hx
   exact zf8 (fun _ _ _ h=>zft.trans S1 h) (hloop c st1 e st' hc G1 a1 w1 b hA S1.hr (hg.step hr S1) (by rw[hrnd _ _ _ _ h1];exact hb.le S1.le))
  |ret=>cases hc;obtain⟨rfl,hA⟩:=hx;exact⟨G1,S1,rfl,hA⟩
  |exit id=>cases hc;obtain⟨rfl,hA⟩:=hx;exact⟨G1,S1,rfl,hA⟩
  |panic v=>cases hc;obtain⟨u,hu,rfl,hA⟩:=hx;exact⟨G1,S1,u,hu,rfl,hA⟩
theorem zrU{p:Option Code}{st st':St}{e:Ex}(h:zkW p st=some (e,st')):st'=st:=by
 unfold zkW at h
 split at h<;>cases h<;>rfl
theorem zfW{l:Nat}{env:Arr AV}{dl:List Dfd}{rnd:Option Nat}{r:Option CR}{e:Ex}{st':St}(h:kk l env dl rnd r=some (e,st')):st'.rnd=rnd:=by
 unfold kk at h
 split at h
 ·split at h
  ·split at h
   ·cases h
   ·rw[zrU h]
  ·cases h
 ·cases h;rfl
 ·cases h
theorem zrL{qs:FuncId->Bool}{run:Code->St->Option (Ex×St)}(hrun:zhp run){call:Cal->List AV->zg->Option CR}:zhp (qB P qs run call):=by
 intro c st e st' hc
 have hof:∀ {o:Option OR},zji st.rnd o=some (e,st')->st'.rnd=st.rnd:=by
  intro o ho
  unfold zji at ho
  split at ho<;>cases ho<;>rfl
 cases c with
 |skip=>cases hc;rfl
 |label l=>cases hc;rfl
 |ret=>cases hc;rfl
 |exit id=>cases hc;rfl
 |region id ops draw=>cases draw<;>exact hof hc
 |seq x y=>
  simp only[qB] at hc
  cases h1:run x st with
  |none=>rw[h1] at hc;cases hc
  |some p=>
   obtain⟨e1,st1⟩:=p
   rw[h1] at hc
   have:=hrun _ _ _ _ h1
   cases e1 with
   |normal=>exact(hrun _ _ _ _ hc).trans this
   |_=>cases hc;exact this
 |cond c x y=>
  simp only[qB] at hc
  split at hc
  ·exact hrun _ _ _ _ hc
  ·exact hrun _ _ _ _ hc
  ·cases hc
 |block id c=>
  simp only[qB] at hc
  cases h1:run c st with
  |none=>rw[h1] at hc;cases hc
  |some p=>
   obtain⟨e1,st1⟩:=p
   rw[h1] at hc
   have:=hrun _ _ _ _ h1
   cases e1 with
   |exit id'=>
    simp only at hc
    split at hc<;>cases hc<;>exact this
   |_=>cases hc;exact this
 |loop c=>
  simp only[qB] at hc
  cases h1:run c st with
  |none=>rw[h1] at hc;cases hc
  |some p=>
   obtain⟨e1,st1⟩:=p
   rw[h1] at hc
   have:=hrun _ _ _ _ h1
   cases e1 with
   |normal=>exact(hrun _ _ _ _ hc).trans this
   |_=>cases hc;exact this
 |rangeFunc g ps asg body=>
  simp only[qB,zfV] at hc
  split at hc
  ·split at hc
   ·split at hc
    ·rename_i hn;rw[zfW hc,hn]
    ·rename_i hn
     split at hc
     ·rw[zfW hc,hn]
     ·cases hc
   ·cases hc
  ·cases hc
 |_=>simp [qB] at hc
theorem zjk{G G1:Gh}{h1:zg}{w w1:World}{l:Nat}{env:Arr AV}{dl:List Dfd}{rnd b:Option Nat}{cr:CR}{e:Ex}{st':St}{rl:Ver}{a':Act}(hS:Step G G1 B h1 w w1)(hat:G1.at l 0=some rl)
  (he:kk l env dl rnd (some cr)=some (e,st')) (hA:AR G1 env dl a'):∀ en w2,zqC G1 B w1 cr en w2->rangePost (fen b) 0 P rl.b (zft G B w e st') a' en w2:=by
 intro en w2 hcr
 cases cr with
 |pan v h2=>
  obtain⟨G2,S2,u,hv,rfl⟩:=hcr
  cases he
  exact⟨G2,hS.trans S2,u,hv,rfl,hA.le S2.le⟩
 |ret v h2=>
  obtain⟨G2,S2,u,hv,rfl⟩:=hcr
  simp only[kk] at he
  split at he
  ·rename_i e2 ps asg body s p hl
   have hat2:=S2.le _ _ _ hat
   obtain⟨hg2,hlt2,L,q1,q2,q3,q4,q5,q6,q7⟩:=zem S2.hr hl hat2
   have hb:L.state≠.busy:=by
    intro hbb
    rw[hbb] at q2
    subst q2
    cases he
   have he':zkW p ⟨env,h2.set l (.loop e2 ps asg body .exhausted p),dl,rnd⟩=some (e,st'):=by
    cases s<;>first|(cases he;done)|exact he
   have hT:=zd2 S2.hr hl hat2 .exhausted p q1
   have hrun:=run_endLoop (P:=P) q1 hb
   have hpe:({ L with state:=.exhausted }:Loop)={ L with state:=.exhausted,pending:=p }:=by rw[<- q3]
   refine⟨L.pending,_,hrun,?_⟩
   rw[hpe]
   have hS3:=(hS.trans S2).trans hT
   have hA3:AR G2 env dl a':=hA.le S2.le
   rw[q3]
   unfold zkW at he'
   split at he'
   ·cases he';exact⟨G2,hS3,rfl,hA3⟩
   ·cases he';exact wpIn_ret ⟨G2,hS3,rfl,hA3⟩
   ·cases he';exact wpIn_exit ⟨G2,hS3,rfl,hA3⟩
   ·cases he'
  ·cases he
theorem zeS{G:Gh}{vs:List Ver}:Gh.at (G++[vs]) G.length 0=vs[0]?:=by
 unfold Gh.at
 rw[yi (yb _)]
 simp
theorem zmj(hng:zpI P){call:Cal->List AV->zg->Option CR}(hcall:zgR P B W0 call){g:Operand}{ps:Array Tmp}{asg body:Code}{st st':St}{e:Ex}(he:zfV P call g ps asg body st=some (e,st'))
  {G:Gh} {a:Act} {w:World} {b:Option Nat} (ha:AR G st.env st.dl a) (hr:HR G B st.h w) (hg:zgm P B W0 G w) (hb:RN G st.rnd b):(Code.rangeFunc g ps asg body).wpIn (fen b) 0 P (zft G B w e st') a w:=by
 unfold zfV at he
 split at he
 ·rename_i f first cap hgv
  split at he
  ·rename_i hbody
   have hE:=enters_of hng hbody
   have hV:=zd4 ha hr hg _ _ hgv
   generalize hu:a.eval g=u at hV
   cases hV with
   | @fn _ _ _ vf vc hvf hvc=>
    have hres:∀ (l:Nat) (w1:World),(resolve a.eval (rangeCall g l) 0).run P w1=.ok { target:=.fn (.func f) vc.toArray,args:=vf.toArray ++ #[Value.func (.yield l) #[] #[]] } w1:=by
     intro l w1
     have hcv:∀ v,a.eval (.const v)=v:=fun _=>rfl
     simp [resolve,hu,hcv,Deferred.ofValue]
    have hinv:∀ (l:Nat) (w1:World),(invoke (.fn (.func f) vc.toArray) (vf.toArray ++ #[Value.func (.yield l) #[] #[]])).run P w1=.ok (.enter f (vf++[Value.func (.yield l) #[] #[]]++vc).toArray) w1:=by
     intro l w1
     have:(vf.toArray ++ #[Value.func (.yield l) #[] #[]]++vc.toArray)=(vf++[Value.func (.yield l) #[] #[]]++vc).toArray:=by apply vT;simp
     simp only[invoke]
     rw[this]
     exact hE _ _
    have fin:∀ {G1:Gh} {h1:zg} {w1:World} {l:Nat} {rl:Ver} {dl:List Dfd} {mark:List Deferred} {rnd:Option Nat} {fnid:FuncId},Step G G1 B h1 w w1->G1.at l 0=some rl->MK G1 dl (mark++a.defers) ->
      kk l st.env dl rnd (call (.f f) (first++[.yld l]++cap) h1)=some (e,st') ->
      CallsIn (fen b) 0 P f (vf++[Value.func (.yield rl.b) #[] #[]]++vc).toArray w1 (rangePost (fen b) 0 P rl.b (zft G B w e st') { a with defers:=mark++a.defers }):=by
     intro G1 h1 w1 l rl dl mark rnd fnid hS hat hmk hend
     cases hc:call (.f f) (first++[.yld l]++cap) h1 with
     |none=>rw[hc] at hend;cases hend
     |some cr=>
      rw[hc] at hend
      have hVL:VL G1 (first++[.yld l]++cap) (vf++[Value.func (.yield rl.b) #[] #[]]++vc):=((hvf.le hS.le).append (.cons (.yld hat) .nil)).append (hvc.le hS.le)
      have hpost:=zjk (P:=P) (b:=b) (a':={ a with defers:=mark++a.defers }) hS hat hend ⟨hmk,ha.env.le hS.le⟩
      rcases hcall (.f f) _ h1 cr hc G1 _ w1 hVL hS.hr (hg.step hr hS) with⟨hC,_⟩|⟨v,h2,u2,w2,G2,_,hv,_⟩
      ·exact zeV (hC.mono hpost)
      ·rw[hE _ _] at hv;cases hv
    refine wpIn_rangeFunc fun fnid _=>?_
    split at he
    ·
     rename_i hn
     rw[hn] at hb
     obtain rfl:b=none:=hb
     have S1:Step G (G++[[⟨w.heap.size,0,0,0,0⟩]]) B (st.h++[Blk.dfr]) w (w.alloc (.deferred (some []))):=
      Step.push hr rfl (by simp) (fun k hk=>(zfs.alloc [] w _).block k hk (by simp)) rfl rfl rfl
       (fun v r hv=>by
        cases v with
        |zero=>simp at hv;subst hv;exact⟨yb _,by simp⟩
        |succ v=>simp at hv) (.inr ⟨_,rfl,World.alloc_heap_new w _⟩)
     have S2:Step (G++[[⟨w.heap.size,0,0,0,0⟩]]) (G++[[⟨w.heap.size,0,0,0,0⟩]]++[[⟨w.heap.size+1,0,0,0,0⟩]]) B (st.h++[Blk.dfr]++[Blk.loop st.env ps asg body .ready none]) (w.alloc (.deferred (some [])))
       ((w.alloc (.deferred (some []))).alloc (.loop { state:=.ready,pending:=none,fn:=fnid,tmps:=a.tmps,params:=ps,assign:=asg,body,defers:=w.heap.size })):=
      Step.push S1.hr rfl (by simp) (fun k hk=>(zfs.alloc [] (w.alloc (.deferred (some []))) _).block k hk (by simp)) rfl rfl rfl
       (fun v r hv=>by
        cases v with
        |zero=>simp at hv;subst hv;exact⟨by simp,by simp⟩
        |succ v=>simp at hv) (.inr ⟨_,rfl,_,by
         have:=World.alloc_heap_new (w.alloc (.deferred (some []))) (.loop { state:=.ready,pending:=none,fn:=fnid,tmps:=a.tmps,params:=ps,assign:=asg,body,defers:=w.heap.size })
         simpa using this,rfl,rfl,rfl,rfl,rfl,(ha.env.le S1.le).le (Gh.zd0 _ _)⟩)
     have hat1:Gh.at (G++[[⟨w.heap.size,0,0,0,0⟩]]++[[⟨w.heap.size+1,0,0,0,0⟩]]) st.h.length 0=some ⟨w.heap.size,0,0,0,0⟩:=by
      refine S2.le _ _ _ ?_
      rw[<- hr.len,zeS];rfl
     have hat2:Gh.at (G++[[⟨w.heap.size,0,0,0,0⟩]]++[[⟨w.heap.size+1,0,0,0,0⟩]]) (st.h.length+1) 0=some ⟨w.heap.size+1,0,0,0,0⟩:=by
      have:=zeS (G:=G++[[⟨w.heap.size,0,0,0,0⟩]]) (vs:=[⟨w.heap.size+1,0,0,0,0⟩])
      rw[yu,hr.len] at this
      exact this
     exact⟨w.heap.size+1,[{ target:=.collected w.heap.size,args:=#[] }],_,_,_,f,_,_,run_enterLoop_outer fnid a.tmps ps asg body,hres _ _,fun f' _=>zid _ f',hinv _ _,(fun e=>by cases e),
      fin (fnid:=fnid) (dl:=.mark st.h.length::st.dl) (S1.trans S2) hat2 ⟨_,_,hat1,rfl,ha.defers.le (S1.trans S2).le⟩ he⟩
    ·
     rename_i lo hn
     rw[hn] at hb
     obtain⟨rv,hv1,rfl⟩:=hb
     split at he
     ·rename_i e2 ps2 asg2 body2 s2 p2 hl
      obtain⟨_,_,L,q1,_⟩:=zem hr hl hv1
      have S1:Step G (G++[[⟨w.heap.size,0,0,0,0⟩]]) B (st.h++[Blk.loop st.env ps asg body .ready none]) w (w.alloc (.loop { state:=.ready,pending:=none,fn:=fnid,tmps:=a.tmps,params:=ps,assign:=asg,body,defers:=L.defers })):=
       Step.push hr rfl (by simp) (fun k hk=>(zfs.alloc [] w _).block k hk (by simp)) rfl rfl rfl
        (fun v r hv=>by
         cases v with
         |zero=>simp at hv;subst hv;exact⟨yb _,by simp⟩
         |succ v=>simp at hv) (.inr ⟨_,rfl,_,World.alloc_heap_new w _,rfl,rfl,rfl,rfl,rfl,ha.env.le (Gh.zd0 _ _)⟩)
      have hat1:Gh.at (G++[[⟨w.heap.size,0,0,0,0⟩]]) st.h.length 0=some ⟨w.heap.size,0,0,0,0⟩:=by
       rw[<- hr.len,zeS];rfl
      exact⟨w.heap.size,[],_,_,_,f,_,_,run_enterLoop_inner q1 fnid a.tmps ps asg body,hres _ _,fun f' _=>zid _ f',hinv _ _,(fun e=>by cases e),
       fin (fnid:=fnid) S1 hat1 (ha.defers.le S1.le) he⟩
     ·cases he
  ·cases he
 ·cases he
theorem znW(hmo:P.follows .mixedOrders=true)(hng:zpI P){qs:FuncId->Bool}{run:Code->St->Option (Ex×St)}{call:Cal->List AV->zg->Option CR}(hrun:zhq P B W0 run)(hrnd:zhp run)(hcall:zgR P B W0 call)
  {n:Nat} (hqc:QC call qs) (hloop:zqH P B W0 run n):zhq P B W0 (qB P qs run call):=by
 intro c st e st' hc G a w b ha hr hg hb
 cases c with
 |skip=>cases hc;exact wpIn_skip ⟨G,.refl hr,rfl,ha⟩
 |label l=>cases hc;exact wpIn_label ⟨G,.refl hr,rfl,ha⟩
 |ret=>cases hc;exact wpIn_ret ⟨G,.refl hr,rfl,ha⟩
 |exit id=>cases hc;exact wpIn_exit ⟨G,.refl hr,rfl,ha⟩
 |region id ops draw=>
  cases draw with
  |true=>
   simp only[qB] at hc
   cases hm:zat P (zhw P qs ops.toList) call ops.toList st.env st.h st.dl with
   |none=>rw[hm] at hc;cases hc
   |some r=>
    rw[hm] at hc
    obtain⟨env',h',rfl,hwp⟩:=zmg (Q:=zft G B w e st') (bb:=b) (id:=id) hmo hcall (zul hqc) hm ha hr hg
    cases hc
    rw[vw] at hwp
    exact hwp fun G' a' w' hS hA=>⟨G',hS,rfl,hA⟩
  |false=>
   simp only[qB] at hc
   cases hm:zdB P call ops st.rnd ops.toList st.env st.h st.dl with
   |none=>rw[hm] at hc;cases hc
   |some r=>
    rw[hm] at hc
    have hl:wpListIn (fen b) 0 P ops.toList.toArray (zft G B w e st') ops.toList a w:=by
     rw[vw]
     refine zgB hcall ha hr hg hb hm (fun env' h' mk' G' a' w' hq hS hA=>?_) (fun v env' h' mk' G' u a' w' hq hS hV hD=>?_)
     ·subst hq
      cases hc
      exact⟨G',hS,rfl,hA⟩
     ·subst hq
      cases hc
      exact⟨G',hS,u,hV,rfl,hD⟩
    have:=wpIn_region_lit (id:=id) hl
    rwa [vw] at this
 |seq x y=>
  simp only[qB] at hc
  cases h1:run x st with
  |none=>rw[h1] at hc;cases hc
  |some p=>
   obtain⟨e1,st1⟩:=p
   rw[h1] at hc
   refine wpIn_seq (Go.wpIn_mono (hrun x st e1 st1 h1 G a w b ha hr hg hb) fun ex a1 w1 hp=>?_)
   obtain⟨G1,S1,hx⟩:=hp
   cases e1 with
   |normal=>
    obtain⟨rfl,hA⟩:=hx
    exact Go.wpIn_mono (hrun y st1 e st' hc G1 a1 w1 b hA S1.hr (hg.step hr S1) (by rw[hrnd _ _ _ _ h1];exact hb.le S1.le)) fun _ _ _ h=>zft.trans S1 h
   |ret=>cases hc;obtain⟨rfl,hA⟩:=hx;exact⟨G1,S1,rfl,hA⟩
   |exit id=>cases hc;obtain⟨rfl,hA⟩:=hx;exact⟨G1,S1,rfl,hA⟩
   |panic v=>cases hc;obtain⟨u,hu,rfl,hA⟩:=hx;exact⟨G1,S1,u,hu,rfl,hA⟩
 |cond c x y=>
  simp only[qB] at hc
  split at hc
  ·rename_i hv
   exact wpIn_cond_true (zhZ (zd4 ha hr hg _ _ hv)) (hrun x st e st' hc G a w b ha hr hg hb)
  ·rename_i hv
   exact wpIn_cond_false (zhZ (zd4 ha hr hg _ _ hv)) (hrun y st e st' hc G a w b ha hr hg hb)
  ·cases hc
 |block id c=>
  simp only[qB] at hc
  cases h1:run c st with
  |none=>rw[h1] at hc;cases hc
  |some p=>
   obtain⟨e1,st1⟩:=p
   rw[h1] at hc
   refine wpIn_block (Go.wpIn_mono (hrun c st e1 st1 h1 G a w b ha hr hg hb) fun ex a1 w1 hp=>?_)
   obtain⟨G1,S1,hx⟩:=hp
   cases e1 with
   |normal=>cases hc;obtain⟨rfl,hA⟩:=hx;exact⟨G1,S1,rfl,hA⟩
   |ret=>cases hc;obtain⟨rfl,hA⟩:=hx;exact⟨G1,S1,rfl,hA⟩
   |exit id'=>
    obtain⟨rfl,hA⟩:=hx
    simp only at hc
    by_cases hid:id'=id
    ·rw[if_pos hid] at hc
     cases hc
     simp only[Exit.inBlock,if_pos hid]
     exact⟨G1,S1,rfl,hA⟩
    ·rw[if_neg hid] at hc
     cases hc
     simp only[Exit.inBlock,if_neg hid]
     exact⟨G1,S1,rfl,hA⟩
   |panic v=>cases hc;obtain⟨u,hu,rfl,hA⟩:=hx;exact⟨G1,S1,u,hu,rfl,hA⟩
 |loop c=>exact wpIn_loop_rounds (n+1) (zl9 hrun hrnd hloop hc ha hr hg hb)
 |rangeFunc g ps asg body=>exact zmj hng hcall hc ha hr hg hb
 |_=>simp [qB] at hc
theorem zep{G:Gh}{env:Arr AV}{h:zg}{a:Act}{w:World}(ha:VL G env.toL a.tmps.toList)(hr:HR G B h w):∀ {rs:List ResultVar} {vs:List AV},zmk P env h rs=some vs->∃ us,VL G vs us/\RV P (fun t=>a.tmps.getD t undef) w rs us
 | [],vs,he=>by cases he;exact⟨[],.nil,rfl⟩
 |.tmp t::l,vs,he=>by
  unfold zmk at he
  split at he
  ·rename_i v vs' h1 h2
   cases he
   obtain⟨us,h3,h4⟩:=zep ha hr h2
   obtain⟨u,h5,h6⟩:=ha.get (Arr.jT.trans h1)
   rw[yZ] at h5
   exact⟨u::us,.cons h6 h3,by simp [vi,h5],h4⟩
  ·cases he
 |.cell t T::l,vs,he=>by
  unfold zmk at he
  split at he
  ·rename_i loc off ver lim vs' h1 h2
   obtain⟨us,h3,h4⟩:=zep ha hr h2
   obtain⟨u,h5,h6⟩:=ha.get (Arr.jT.trans h1)
   rw[yZ] at h5
   cases h6 with
   | @ptr _ _ _ _ r g1 g2 g3=>
    split at he
    ·rename_i n hag hsz
     split at he
     ·rename_i cs hrd
      cases he
      obtain⟨xs,o1,o2,o3⟩:=qV hr hrd g1 g2 g3
      refine⟨_::us,.cons (.agg o1) h3,⟨_,by simp [vi,h5];rfl,?_⟩,h4⟩
      have:=run_loadCells_list (P:=P) w ⟨r.b,off+r.sh-r.lo,none⟩ xs (fun j v hv=>by rw[Addr.add_lit];exact o3 j v hv)
      rw[o2] at this
      simp [loadVar,zcY hag,run_sizeOf hsz,this]
     ·cases he
    ·rename_i hag
     split at he
     ·rename_i v hrd
      cases he
      obtain⟨xs,o1,o2,o3⟩:=qV hr hrd g1 g2 g3
      obtain⟨y,rfl⟩:=vn.1 o2
      cases o1 with
      |cons o1 _=>
       refine⟨_::us,.cons o1 h3,⟨_,by simp [vi,h5];rfl,?_⟩,h4⟩
       have h4:=o3 0 y rfl
       rw[yJ] at h4
       simp [loadVar,zcY hag,h4]
     ·cases he
    ·cases he
  ·cases he
theorem zsh{G:Gh}{vs:List AV}{us:List Value}(h:VL G vs us):V G (zsf vs) (oneOf us):=by
 cases h with
 |nil=>exact .tup .nil
 |cons h t=>
  cases t with
  |nil=>exact h
  |cons h2 t=>exact .tup (.cons h (.cons h2 t))
theorem zdQ(G:Gh):∀ n,VL G (yn n AV.undef) (yn n Go.undef)
 |0=>.nil
 |n+1=>.cons (.tup .nil) (zdQ G n)
theorem zmo{run:Code->St->Option (Ex×St)}(hrun:zhq P B W0 run){fn:Func}{args:List AV}{h:zg}{e:Ex}{st:St}(hc:mstart run fn args h=some (e,st)){G:Gh}{us:List Value}{w:World}(hx:VL G args us)(hr:HR G B h w)(hg:zgm P B W0 G w):
  ∃ c,fn.body=some c/\c.wpIn Fence.wide 0 P (zft G B w e st) { tmps:=us.toArray++vE (fn.ntmps-us.toArray.size) Go.undef,defers:=[] } w:=by
 unfold mstart at hc
 split at hc
 ·rename_i c hb
  split at hc
  ·refine⟨c,hb,?_⟩
   have hA:AR G (Arr.of (args++yn (fn.ntmps-args.length) .undef)) [] { tmps:=us.toArray++vE (fn.ntmps-us.toArray.size) Go.undef,defers:=[] }:=by
    refine⟨rfl,?_⟩
    rw[Arr.zpB]
    simp only[vR,vM,vX,hx.length]
    exact hx.append (zdQ G _)
   exact hrun c _ e st hc G _ w none hA hr hg rfl
  ·cases hc
 ·cases hc
def MR(G:Gh):Pn->FrameMode->Prop
 |.no,m=>m=.returning
 |.up v,m=>∃ u,V G v u/\m=.panicking [{ v:=u,recovered:=false }]
 |.re v,m=>∃ u,V G v u/\m=.panicking [{ v:=u,recovered:=true }]
theorem MR.le{G G':Gh}{pn:Pn}{m:FrameMode}(h:MR G pn m)(hl:G.le G'):MR G' pn m:=by
 cases pn with
 |no=>exact h
 |up v=>obtain⟨u,h1,h2⟩:=h;exact⟨u,h1.le hl,h2⟩
 |re v=>obtain⟨u,h1,h2⟩:=h;exact⟨u,h1.le hl,h2⟩
theorem MR.settle{G:Gh}{pn:Pn}{m:FrameMode}(h:MR G pn m):MR G pn.settle (Go.settle m):=by
 cases pn with
 |no=>obtain rfl:m=.returning:=h;rfl
 |up v=>obtain⟨u,h1,rfl⟩:=h;exact⟨u,h1,rfl⟩
 |re v=>obtain⟨u,h1,rfl⟩:=h;rfl
theorem MR.run{G:Gh}{pn:Pn}{m:FrameMode}(h:MR G pn m):m≠.run:=by
 cases pn with
 |no=>obtain rfl:m=.returning:=h;simp
 |up v=>obtain⟨u,h1,rfl⟩:=h;simp
 |re v=>obtain⟨u,h1,rfl⟩:=h;simp
theorem zbG{F:Fence}{n:Nat}{c:Code}{Q Q':Exit->Act->List Frame->World->Prop}(hq:∀ e a cs w,Q e a cs w->Q' e a cs w){a:Act}{cs:List Frame}{w:World}(h:c.wpSIn F n P Q a cs w):c.wpSIn F n P Q' a cs w:=by
 intro b k h1 h2 h3 h4
 obtain⟨e,a',cs',w',h5,h6,h7⟩:=h b k h1 h2 h3 h4
 exact⟨e,a',cs',w',h5,hq _ _ _ _ h6,h7⟩
def zwt(G:Gh)(B:Nat)(w:World)(e:Ex)(st:St)(pn:Pn)(c0:Frame)(cs:List Frame)(x:Exit)(a:Act)(cs':List Frame)(w':World):Prop:=
 ∃ G' u',Step G G' B st.h w w'/\zBu G' e st.env st.dl x a/\MR G' pn u'/\cs'={ c0 with mode:=u' }::cs
theorem ziX{pn:Pn}{o:Option (Ex×St)}{e:Ex}{st:St}{pn':Pn}(h:zgi pn o=some (e,st,pn')):o=some (e,st)/\pn'=pn:=by
 unfold zgi at h
 split at h
 ·cases h;exact⟨rfl,rfl⟩
 ·cases h
theorem zrP{run:Code->St->Option (Ex×St)}(hrun:zhq P B W0 run){c:Code}{st st':St}{pn pn':Pn}{e:Ex}(hc:zgi pn (run c st)=some (e,st',pn')){G:Gh}{a:Act}{w:World}(c0:Frame)(cs:List Frame){u:FrameMode}
  (ha:AR G st.env st.dl a) (hr:HR G B st.h w) (hg:zgm P B W0 G w) (hn:st.rnd=none) (hm:MR G pn u):c.wpSIn Fence.wide 0 P (zwt G B w e st' pn' c0 cs) a ({ c0 with mode:=u }::cs) w:=by
 obtain⟨h1,rfl⟩:=ziX hc
 refine wpSIn_of_wpIn rfl (Go.wpIn_mono (hrun c st e st' h1 G a w none ha hr hg (by rw[hn];rfl)) fun x a' w' hp=>?_)
 obtain⟨G',hS,hx⟩:=hp
 exact⟨G',u,hS,hx,hm.le hS.le,rfl⟩
theorem zlL{ρ:Operand->Value}{o:Oper}(h:isRec o=true){w:World}:(execOp ρ o).run P w=.ok .recover w/\∀ y,Region.wanted o y=true:=by
 obtain⟨dst,op,ty,pos,after,guard⟩:=o
 unfold isRec at h
 split at h
 ·rename_i c h1 h2
  split at h
  ·rename_i h3
   simp only at h1 h2
   subst h1;subst h2
   obtain⟨callee,args,ats⟩:=c
   simp only at h3
   subst h3
   exact⟨by rw[zT];rfl,fun y=>rfl⟩
  ·cases h
 ·cases h
theorem zw4{run:Code->St->Option (Ex×St)}(hrnd:zhp run):∀ {c:Code} {st st':St} {pn pn':Pn} {e:Ex},mdc run c st pn=some (e,st',pn')->st'.rnd=st.rnd:=by
 have plain:∀ {c:Code} {st st':St} {pn pn':Pn} {e:Ex},zgi pn (run c st)=some (e,st',pn')->st'.rnd=st.rnd:=fun h=>hrnd _ _ _ _ (ziX h).1
 intro c
 induction c with
 |seq x y ihx ihy=>
  intro st st' pn pn' e hc
  simp only[mdc] at hc
  cases h1:mdc run x st pn with
  |none=>rw[h1] at hc;cases hc
  |some p=>
   obtain⟨e1,st1,pn1⟩:=p
   rw[h1] at hc
   have:=ihx h1
   cases e1 with
   |normal=>exact(ihy hc).trans this
   |_=>cases hc;exact this
 |region id ops dr=>
  intro st st' pn pn' e hc
  cases dr with
  |true=>exact plain hc
  |false=>
   simp only[mdc] at hc
   split at hc
   ·split at hc
    ·split at hc
     ·cases hc;rfl
     ·cases hc
    ·exact plain hc
   ·exact plain hc
 |_=>exact plain
theorem zrQ{run:Code->St->Option (Ex×St)}(hrun:zhq P B W0 run)(hrnd:zhp run):∀ {c:Code} {st st':St} {pn pn':Pn} {e:Ex},mdc run c st pn=some (e,st',pn')->∀ {G:Gh} {a:Act} {w:World} (c0:Frame) (cs:List Frame) {u:FrameMode},
  AR G st.env st.dl a->HR G B st.h w->zgm P B W0 G w->st.rnd=none->MR G pn u->st'.rnd=none/\c.wpSIn Fence.wide 0 P (zwt G B w e st' pn' c0 cs) a ({ c0 with mode:=u }::cs) w:=by
 have plain:∀ {c:Code} {st st':St} {pn pn':Pn} {e:Ex},zgi pn (run c st)=some (e,st',pn')->∀ {G:Gh} {a:Act} {w:World} (c0:Frame) (cs:List Frame) {u:FrameMode},
   AR G st.env st.dl a->HR G B st.h w->zgm P B W0 G w->st.rnd=none->MR G pn u->st'.rnd=none/\c.wpSIn Fence.wide 0 P (zwt G B w e st' pn' c0 cs) a ({ c0 with mode:=u }::cs) w:=by
  intro c st st' pn pn' e hc G a w c0 cs u ha hr hg hn hm
  exact⟨(hrnd _ _ _ _ (ziX hc).1).trans hn,zrP hrun hc c0 cs ha hr hg hn hm⟩
 intro c
 induction c with
 |seq x y ihx ihy=>
  intro st st' pn pn' e hc G a w c0 cs u ha hr hg hn hm
  simp only[mdc] at hc
  cases h1:mdc run x st pn with
  |none=>rw[h1] at hc;cases hc
  |some p=>
   obtain⟨e1,st1,pn1⟩:=p
   rw[h1] at hc
   obtain⟨hn1,hw⟩:=ihx h1 c0 cs ha hr hg hn hm
   cases e1 with
   |normal=>
    simp only at hc
    refine⟨?_,wpSIn_seq (zbG (fun x1 a1 cs1 w1 hp=>?_) hw)⟩
    ·exact(zw4 hrnd hc).trans hn1
    ·obtain⟨G1,u1,S1,⟨rfl,hA⟩,hm1,rfl⟩:=hp
     exact zbG (fun x2 a2 cs2 w2 ⟨G2,u2,S2,hx2,hm2,he2⟩=>⟨G2,u2,S1.trans S2,hx2,hm2,he2⟩) (ihy hc c0 cs hA S1.hr (hg.step hr S1) hn1 hm1).2
   |ret=>cases hc;exact⟨hn1,wpSIn_seq (zbG (fun x1 a1 cs1 w1 hp=>by obtain⟨G1,u1,S1,⟨rfl,hA⟩,hm1,rfl⟩:=hp;exact⟨G1,u1,S1,⟨rfl,hA⟩,hm1,rfl⟩) hw)⟩
   |exit id=>cases hc;exact⟨hn1,wpSIn_seq (zbG (fun x1 a1 cs1 w1 hp=>by obtain⟨G1,u1,S1,⟨rfl,hA⟩,hm1,rfl⟩:=hp;exact⟨G1,u1,S1,⟨rfl,hA⟩,hm1,rfl⟩) hw)⟩
   |panic v=>cases hc;exact⟨hn1,wpSIn_seq (zbG (fun x1 a1 cs1 w1 hp=>by obtain⟨G1,u1,S1,⟨u',hu',rfl,hA⟩,hm1,rfl⟩:=hp;exact⟨G1,u1,S1,⟨u',hu',rfl,hA⟩,hm1,rfl⟩) hw)⟩
 |region id ops dr=>
  intro st st' pn pn' e hc G a w c0 cs u ha hr hg hn hm
  cases dr with
  |true=>exact plain hc c0 cs ha hr hg hn hm
  |false=>
   simp only[mdc] at hc
   split at hc
   ·rename_i o hops
    cases hrec:isRec o with
    |false=>rw[hrec] at hc;exact plain hc c0 cs ha hr hg hn hm
    |true=>
     rw[hrec] at hc
     simp only at hc
     split at hc
     ·rename_i env' hset
      cases hc
      refine⟨hn,wpSIn_region ?_⟩
      obtain⟨hrun',hw'⟩:=zlL (P:=P) (ρ:=a.eval) (w:=w) hrec
      have hops':ops=#[o]:=by apply vT;exact hops
      subst hops'
      show wpOpsSIn Fence.wide 0 P #[o] _ [0] a _ w
      unfold wpOpsSIn
      simp only[List.getElem?_toArray,List.getElem?_cons_zero]
      refine⟨fun f _=>trivial,?_⟩
      rw[if_pos (hw' _),hrun']
      simp only
      cases pn with
      |no=>
       obtain rfl:u=.returning:=hm
       simp only[recoverD]
       unfold wpOpsSIn
       exact⟨G,.returning,.refl hr,⟨rfl,za1 ha hset .zer⟩,rfl,rfl⟩
      |up v=>
       obtain⟨uv,h1,rfl⟩:=hm
       simp only[recoverD]
       unfold wpOpsSIn
       exact⟨G,_,.refl hr,⟨rfl,za1 ha hset h1⟩,⟨uv,h1,rfl⟩,rfl⟩
      |re v=>
       obtain⟨uv,h1,rfl⟩:=hm
       simp only[recoverD]
       unfold wpOpsSIn
       exact⟨G,_,.refl hr,⟨rfl,za1 ha hset .zer⟩,⟨uv,h1,rfl⟩,rfl⟩
     ·cases hc
   ·exact plain hc c0 cs ha hr hg hn hm
 |_=>exact plain
theorem zmf{run:Code->St->Option (Ex×St)}(hng:zpI P)(hrun:zhq P B W0 run)(hrnd:zhp run){f:FuncId}{args:List AV}{h h':zg}{pn pn':Pn}(hc:zb4 P run f args h pn=some (h',pn')){G:Gh}{us:List Value}{w:World}(hx:VL G args us)(hr:HR G B h w)(hg:zgm P B W0 G w){u:FrameMode}(hm:MR G pn u):
  Enters P f/\CallsDIn Fence.wide 0 P f us.toArray u w fun e u' w'=>(∃ v,e=.returned v)/\∃ G',Step G G' B h' w w'/\MR G' pn' u':=by
 unfold zb4 at hc
 split at hc
 ·rename_i fn hf
  split at hc
  ·rename_i c hb
   split at hc
   ·cases h1:mdc run c ⟨Arr.of (args++yn (fn.ntmps-args.length) .undef),h,[],none⟩ pn with
    |none=>rw[h1] at hc;cases hc
    |some p=>
     obtain⟨e1,st1,pn1⟩:=p
     rw[h1] at hc
     have hA:AR G (Arr.of (args++yn (fn.ntmps-args.length) .undef)) [] { tmps:=us.toArray++vE (fn.ntmps-us.toArray.size) Go.undef,defers:=[] }:=by
      refine⟨rfl,?_⟩
      rw[Arr.zpB]
      simp only[vR,vM,vX,hx.length]
      exact hx.append (zdQ G _)
     refine⟨Enters.mk hf (hng f fn hf) (by rw[hb];rfl),callsDIn_of_wpSIn hf hb trivial fun c0 cs hu=>?_⟩
     subst hu
     refine zbG (fun x a1 cs1 w1 hp=>?_) (zrQ hrun hrnd h1 c0 cs hA hr hg rfl hm).2
     obtain⟨G1,u1,S1,hx1,hm1,rfl⟩:=hp
     have fin:∀ {vs:List AV},AR G1 st1.env st1.dl a1->st1.dl=[]->zmk P st1.env st1.h fn.results.toList=some vs->st1.h=h'->pn1=pn' ->
       a1.defers=[]/\∃ u',({ c0 with mode:=u1 }:Frame)::cs={ c0 with mode:=u' }::cs/\∃ v,(results fn a1.tmps).run P w1=.ok v w1/\(∃ v',Ending.returned v=.returned v')/\∃ G',Step G G' B h' w w1/\MR G' pn' u':=by
      intro vs hA hd hmr hh hpn
      have hdf:=hA.defers
      rw[hd] at hdf
      obtain⟨us',h3,h4⟩:=zep hA.env S1.hr hmr
      exact⟨hdf,u1,rfl,oneOf us',zf9 fn fn.results.toList a1.tmps (by simp) us' h4,⟨_,rfl⟩,G1,hh ▸ S1,hpn ▸ hm1⟩
     cases e1 with
     |normal=>
      obtain⟨rfl,hA⟩:=hx1
      simp only at hc
      split at hc
      ·rename_i vs hd hmr;cases hc;exact fin hA hd hmr rfl rfl
      ·cases hc
     |ret=>
      obtain⟨rfl,hA⟩:=hx1
      simp only at hc
      split at hc
      ·rename_i vs hd hmr;cases hc;exact fin hA hd hmr rfl rfl
      ·cases hc
     |_=>cases hc
   ·cases hc
  ·cases hc
 ·cases hc
theorem zcq{run:Code->St->Option (Ex×St)}(hng:zpI P)(hrun:zhq P B W0 run)(hrnd:zhp run){fn:Func}{tmps:Array Value}{R:Ending->World->Prop}{h':zg}{pn':Pn}:∀ {dl:List Dfd} {ds:List Deferred} {G:Gh} {h:zg} {w:World} {pn:Pn} {u:FrameMode},MK G dl ds->HR G B h w->zgm P B W0 G w->MR G pn u ->
  mleave (zb4 P run) dl h pn=some (h',pn')->(∀ G' w' u',Step G G' B h' w w'->MR G' pn' u'->LeavesIn Fence.wide 0 P fn tmps R [] u' w')->LeavesInM Fence.wide 0 P fn tmps R ds u w
 | [],ds,G,h,w,pn,u,hm,hr,hg,hu,hl,hk=>by
  cases hl
  have:ds=[]:=hm
  subst this
  exact hk G w u (.refl hr) hu
 |.mark loc::dl,ds,G,h,w,pn,u,hm,hr,hg,hu,hl,hk=>by
  obtain⟨r,ds',hat,rfl,hm'⟩:=hm
  unfold mleave at hl
  split at hl
  ·rename_i hb
   obtain⟨b,vs,hb',hgv,hv,hR⟩:=hr.get hat
   rw[hb] at hb';cases hb'
   rcases hR with rfl|⟨r0,rfl,q⟩
   ·simp at hv
   ·simp at hv;subst hv
    have hT:Step G G B (h.set loc .gone) w (w.putObj r0.b (.deferred none)):=Step.turn hr hb hgv rfl rfl trivial
    exact⟨hu.run,.inl ⟨r0.b,_,rfl,run_takeDeferred q,zcq hng hrun hrnd hm' hT.hr (hg.step hr hT) hu hl fun G' w' u' hS=>hk G' w' u' (hT.trans hS)⟩⟩
  ·cases hl
 |.call f args cap::dl,ds,G,h,w,pn,u,hm,hr,hg,hu,hl,hk=>by
  obtain⟨us,vc,ds',h1,h2,rfl,hm'⟩:=hm
  unfold mleave at hl
  cases hc:zb4 P run f (args++cap) h pn with
  |none=>rw[hc] at hl;cases hl
  |some p=>
   obtain⟨h2',pn2⟩:=p
   rw[hc] at hl
   obtain⟨hE,hD⟩:=zmf hng hrun hrnd hc (h1.append h2) hr hg hu
   refine⟨hu.run,.inr ⟨(fun e=>by cases e),.func f,vc.toArray,f,(us++vc).toArray,rfl,?_,fun g _=>trivial,?_⟩⟩
   ·simp only[invoke]
    rw[show us.toArray++vc.toArray=(us++vc).toArray from by apply vT;simp]
    exact hE _ _
   ·refine⟨hD.1,fun c cs hcu hroom=>?_⟩
    obtain⟨e,u',w',fr,⟨⟨v,rfl⟩,G',hS,hu'⟩,hrest⟩:=hD.2 c cs hcu hroom
    refine⟨.returned v,u',w',fr,?_,hrest⟩
    show LeavesInM Fence.wide 0 P fn tmps R ds' (settle u') w'
    exact zcq hng hrun hrnd (hm'.le hS.le) hS.hr (hg.step hr hS) hu'.settle hl fun G2 w2 u2 hS2=>hk G2 w2 u2 (hS.trans hS2)
theorem ze4{run:Code->St->Option (Ex×St)}(hng:zpI P)(hrun:zhq P B W0 run)(hrnd:zhp run){f:FuncId}{args:List AV}{h:zg}{r:CR}(hc:zfQ P run f args h=some r){G:Gh}{us:List Value}{w:World}(hx:VL G args us)(hr:HR G B h w)(hg:zgm P B W0 G w):
  Calls P f us.toArray w (zqC G B w r)/\Enters P f:=by
 unfold zfQ at hc
 split at hc
 ·rename_i fn hf
  cases h1:mstart run fn args h with
  |none=>rw[h1] at hc;cases hc
  |some p=>
   obtain⟨e1,st1⟩:=p
   rw[h1] at hc
   obtain⟨c,hb,hwp⟩:=zmo hrun h1 hx hr hg
   refine⟨callsIn_wide.1 (callsIn_of_wp_marks (n:=0) hf hb trivial (Go.wpIn_mono hwp fun ex a1 w1 hp=>?_)),Enters.mk hf (hng f fn hf) (by rw[hb];rfl)⟩
   obtain⟨G1,S1,hx1⟩:=hp
   have fin:∀ {pn:Pn} {u:FrameMode},AR G1 st1.env st1.dl a1->MR G1 pn u->zna P fn st1.env (mleave (zb4 P run) st1.dl st1.h pn)=some r->LeavesInM Fence.wide 0 P fn a1.tmps (zqC G B w r) a1.defers u w1:=by
    intro pn u hA hu hm
    unfold zna at hm
    split at hm
    ·rename_i h2 hl
     split at hm
     ·rename_i vs hvs
      cases hm
      refine zcq hng hrun hrnd hA.defers S1.hr (hg.step hr S1) hu hl fun G' w' u' hS hu'=>?_
      obtain rfl:u'=.returning:=hu'
      obtain⟨us',h3,h4⟩:=zep (hA.env.le hS.le) hS.hr hvs
      exact⟨oneOf us',zf9 fn fn.results.toList a1.tmps (by simp) us' h4,G',S1.trans hS,_,zsh h3,rfl⟩
     ·cases hm
    ·rename_i h2 v hl
     cases hm
     refine zcq hng hrun hrnd hA.defers S1.hr (hg.step hr S1) hu hl fun G' w' u' hS hu'=>?_
     obtain⟨uv,h3,rfl⟩:=hu'
     exact⟨G',S1.trans hS,uv,h3,rfl⟩
    ·cases hm
   cases e1 with
   |normal=>obtain⟨rfl,hA⟩:=hx1;exact fin (pn:=.no) hA rfl hc
   |ret=>obtain⟨rfl,hA⟩:=hx1;exact fin (pn:=.no) hA rfl hc
   |exit id=>cases hc
   |panic v=>
    obtain⟨u,hu,rfl,hA⟩:=hx1
    exact fin (pn:=.up v) hA ⟨u,hu,rfl⟩ hc
 ·cases hc
theorem zyG{G:Gh}{e:Arr AV}{us:List Value}(h:VL G e.toL us){v:AV}{u:Value}(hv:V G v u)(t:Nat):VL G (e.set t v).toL (us.set t u):=by
 have hl:=h.length
 rw[Arr.xd] at hl
 refine VL.zf1 (by rw[Arr.xd,Arr.length_set,yN];exact hl) fun i x y hx hy=>?_
 rw[Arr.jT,Arr.qk] at hx
 rw[vk] at hy
 split at hx
 ·rename_i hti
  rw[if_pos hti] at hy
  split at hx
  ·rename_i hlt
   cases hx
   rw[if_pos (by omega)] at hy
   cases hy;exact hv
  ·cases hx
 ·rename_i hti
  rw[if_neg hti] at hy
  obtain⟨y',h1,h2⟩:=h.get (Arr.jT.trans hx)
  rw[h1] at hy;cases hy;exact h2
theorem zqI{G:Gh}:∀ {ps:List Tmp} {args:List AV} {us:List Value} {e:Arr AV} {ts:Array Value},VL G args us->VL G e.toL ts.toList ->
  VL G ((ps.zip args).foldl (fun e p=>e.set p.1 p.2) e).toL ((ps.zip us).foldl (fun tmps p=>tmps.setIfInBounds p.1 p.2) ts).toList
 | [],args,us,e,ts,_,h=>by simpa using h
 |p::ps,[],us,e,ts,hx,h=>by cases hx;simpa using h
 |p::ps,a::args,us,e,ts,hx,h=>by
  cases hx with
  |cons h1 h2=>
   simp only[List.zip_cons_cons,List.foldl_cons]
   refine zqI h2 ?_
   rw[Array.toList_setIfInBounds]
   exact zyG h h1 p
theorem zmm{run:Code->St->Option (Ex×St)}(hrun:zhq P B W0 run)(hrnd:zhp run){loc:Nat}{args:List AV}{h:zg}{r:CR}(hc:zpd run loc args h=some r):zvq P B W0 loc args h r:=by
 intro G us w rv hx hr hg hat
 unfold zpd at hc
 split at hc
 ·rename_i env ps asg body s p hl
  split at hc
  ·rename_i hlen
   obtain⟨_,_,L,q1,q2,q3,q4,q5,q6,q7⟩:=zem hr hl hat
   refine⟨L,q1,by rw[hx.length,hlen,q4],roundIn_of_wpIn (F:=Fence.wide) trivial ?_⟩
   cases h1:run asg ⟨(ps.toList.zip args).foldl (fun e p=>e.set p.1 p.2) env,h,[],some loc⟩ with
   |none=>rw[h1] at hc;cases hc
   |some pr=>
    obtain⟨e1,st1⟩:=pr
    rw[h1] at hc
    cases e1 with
    |normal=>
     simp only at hc
     have hA:AR G ((ps.toList.zip args).foldl (fun e p=>e.set p.1 p.2) env) [] { tmps:=(L.params.zip us.toArray).foldl (fun tmps (t,a)=>tmps.setIfInBounds t a) L.tmps,defers:=[] }:=by
      refine⟨rfl,?_⟩
      have:=zqI (ps:=ps.toList) hx q7
      rw[<- q4] at this |-
      rw[<- Array.foldl_toList,Array.toList_zip]
      exact this
     rw[q5,q6]
     refine Go.wpIn_mono (hrun asg _ _ st1 h1 G _ w (some rv.b) hA hr hg ⟨rv,hat,rfl⟩) fun ex a1 w1 hp=>?_
     obtain⟨G1,S1,rfl,hA1⟩:=hp
     unfold zw2 at hc
     split at hc
     ·rename_i e2 p2 a2 b2 pd hl2
      have hat1:=S1.le _ _ _ hat
      obtain⟨_,_,L2,k1,k2,k3,k4,k5,k6,k7⟩:=zem S1.hr hl2 hat1
      have hT:=zd2 S1.hr hl2 hat1 .busy pd k1
      have hpe:({ L2 with state:=.busy }:Loop)={ L2 with state:=.busy,pending:=pd }:=by rw[<- k3]
      refine⟨_,run_beginRound k1 k2,?_⟩
      rw[hpe]
      cases h2:run body ⟨st1.env,st1.h.set loc (.loop e2 p2 a2 b2 .busy pd),st1.dl,some loc⟩ with
      |none=>rw[h2] at hc;cases hc
      |some pr2=>
       obtain⟨e3,st2⟩:=pr2
       rw[h2] at hc
       simp only at hc
       have hS2:=S1.trans hT
       refine Go.wpIn_mono (hrun body _ e3 st2 h2 G1 a1 _ (some rv.b) hA1 hT.hr (hg.step hr hS2) ⟨rv,hat1,rfl⟩) fun ex a2' w2 hp2=>?_
       obtain⟨G2,S3,hx3⟩:=hp2
       have hS4:=hS2.trans S3
       unfold ziy at hc
       split at hc
       ·rename_i e4 p4 a4 b4 s4 pd4 hl4
        have hat2:=S3.le _ _ _ hat1
        obtain⟨_,_,L3,m1,_⟩:=zem S3.hr hl4 hat2
        cases e3 with
        |normal=>
         obtain⟨rfl,_⟩:=hx3
         cases hc
         exact⟨_,_,run_endRound none m1,G2,hS4.trans (zd2 S3.hr hl4 hat2 .ready none m1),_,.bool true,rfl⟩
        |ret=>
         obtain⟨rfl,_⟩:=hx3
         cases hc
         exact⟨_,_,run_endRound (some .ret) m1,G2,hS4.trans (zd2 S3.hr hl4 hat2 .done (some .ret) m1),_,.bool false,rfl⟩
        |exit id=>
         obtain⟨rfl,_⟩:=hx3
         cases hc
         exact⟨_,_,run_endRound (some (.exit id)) m1,G2,hS4.trans (zd2 S3.hr hl4 hat2 .done (some (.exit id)) m1),_,.bool false,rfl⟩
        |panic v=>cases hc
       ·cases hc
     ·cases hc
    |_=>cases hc
  ·cases hc
 ·cases hc
theorem znV{hk:wJ}{run:Code->St->Option (Ex×St)}(hng:zpI P)(hh:zhY P B W0 hk)(hrun:zhq P B W0 run)(hrnd:zhp run):zgR P B W0 (jU P hk run):=by
 intro c args h r hc
 cases c with
 |f f=>
  simp only[jU] at hc
  show zi4 P B W0 f args h r
  split at hc
  ·rename_i g hg;exact hh f g hg args h r hc
  ·intro G us w hx hr hg;exact .inl (ze4 hng hrun hrnd hc hx hr hg)
 |y loc=>exact zmm hrun hrnd hc
theorem zcV(hmo:P.follows .mixedOrders=true){hk:wJ}(hng:zpI P)(hh:zhY P B W0 hk):∀ n,zhq P B W0 (jO P hk n)/\zqH P B W0 (jO P hk n) n/\zhp (jO P hk n)
 |0=>⟨(fun _ _ _ _ h=>by cases h),(fun _ _ _ _ h=>by cases h),(fun _ _ _ _ h=>by cases h)⟩
 |n+1=>by
  obtain⟨h1,h2,h4⟩:=zcV hmo hng hh n
  have h3:=znW hmo hng h1 h4 (znV hng hh h1 h4) (zmD 4 n) h2
  exact⟨h3,fun c st e st' hc G a w b ha hr hg hb=>zl9 h1 h4 h2 hc ha hr hg hb,zrL h4⟩
theorem zkR(hmo:P.follows .mixedOrders=true){hk:wJ}(hng:zpI P)(hh:zhY P B W0 hk){n f:Nat}{args:List AV}{h:zg}{r:CR}(hc:zfQ P (jO P hk n) f args h=some r){G:Gh}{us:List Value}{w:World}(hx:VL G args us)(hr:HR G B h w)(hg:zgm P B W0 G w):
  Calls P f us.toArray w (zqC G B w r):=(ze4 hng (zcV hmo hng hh n).1 (zcV hmo hng hh n).2.2 hc hx hr hg).1
end
inductive XK where
 |same|makeNoZero (t e:TypeId)|indexByte|zyH (k:IntKind)|zvu|zBQ (k:IntKind)|zBP (k:IntKind)|index (g:Nat)|count|zy3|marked
def zg0(h:zg):AV->Option (List UInt8)
 |.str l=>some l
 |.qC=>some []
 |.sl loc off len 1 ver _=>match rd h loc off ver (off+len) len with
  |some cs=>zb9 cs
  |none=>none
 |_=>none
def ke(c:UInt8):List UInt8->Nat->Int
 | [],_=>-1
 |x::l,i=>if x==c then i else ke c l (i+1)
def idxOf(a b:List UInt8):Int:=match(vd (a.length+1-b.length)).find? fun i=>(a.drop i).take b.length==b with
 |some i=>i
 |none=>-1
def mx(k:XK)(args:List AV)(h:zg):Option CR:=
 match k,args with
 |.same,[x]=>some (.ret x h)
 |.makeNoZero _ e,[.int .i64 n]=>if 0<=n/\n<549755813888 then some (.ret (.sl h.length 0 n.toNat 1 0 false) (zd5 h (yn n.toNat .any) e)) else none
 |.indexByte,[b,.int .u8 c]=>match zg0 h b with
  |some l=>some (.ret (.int .i64 (ke c.toNat.toUInt8 l 0)) h)
  |none=>none
 |.index g,[a,b]=>match zg0 h a,zg0 h b,h[g]? with
  |some la,some lb,some (.lay [.iv lo _])=>if 2<=lb.length/\(lb.length:Int)<=lo/\la.length<4294967281 then some (.ret (.int .i64 (idxOf la lb)) h) else none
  |_,_,_=>none
 |.zyH k,[.ptr loc off ver lim]=>match rd h loc off ver lim 1 with
  |some [.int k' n]=>if k=k' then some (.ret (.int k' n) h) else none
  |_=>none
 |.zvu,[.ptr loc off ver lim,x]=>match wr h loc off ver lim [x] with
  |some h'=>some (.ret (.tup []) h')
  |none=>none
 |.zBQ k,[.ptr loc off ver lim,.int k1 o,.int k2 y]=>match rd h loc off ver lim 1,wr h loc off ver lim [.int k2 y] with
  |some [.int k' n],some h'=>if k=k'/\k1=k/\k2=k then if n=o then some (.ret (.bool true) h') else some (.ret (.bool false) h) else none
  |_,_=>none
 |.zBP k,[.ptr loc off ver lim,.int k1 y]=>match rd h loc off ver lim 1 with
  |some [.int k' n]=>if k=k' then match wr h loc off ver lim [.int k (k.wrap (n+y))] with
    |some h'=>some (.ret (.int k (k.wrap (n+y))) h')
    |none=>none
   else none
  |_=>none
 |.count,[b,.int .u8 c]=>match zg0 h b with
  |some l=>some (.ret (.int .i64 (Go.Lib.countByte l c.toNat.toUInt8)) h)
  |none=>none
 |.zy3,[]=>some (.ret (.tup []) h)
 |.marked,[.ptr _ _ _ _]=>some (.ret (.tup []) h)
 |_,_=>none
def XK.entry(P:Program):XK->(Array Value->Sem Value)->Prop
 |.same,e=>e=Extern.AbiNoEscape.same
 |.makeNoZero t el,e=>(∃ ps,e=Extern.BytealgMakeNoZero.makeNoZero ps #[t])/\P.underlying t=some (.slice el)
 |.indexByte,e=>e=Extern.BytealgIndexByte.indexByte
 |.index g,e=>e=Extern.BytealgIndex.index/\P.globals.findIdx? (·.name == "internal/bytealg.MaxLen")=some g
 |.zyH k,e=>e=Extern.Atomic.loadT (.int k)
 |.zvu,e=>e=Extern.Atomic.storeT
 |.zBQ k,e=>e=Extern.Atomic.casT (.int k)
 |.zBP k,e=>e=Extern.Atomic.update (Op.intArith .add) k true
 |.count,e=>e=Extern.BytealgCount.count
 |.zy3,e=>∃ m,e=fun _=>do mark m;pure Extern.Race.none_
 |.marked,e=>∃ m,e=Extern.Race.marked m
def XFn(P:Program)(f:FuncId)(k:XK):Prop:=
 ∃ fn e,P.funcs[f]?=some fn/\(fn.name == "runtime.NumGoroutine")=false/\fn.body.isNone=true/\Extern.findNext fn=none/\Extern.find fn=some e/\k.entry P e
def zkV(tab:List (FuncId×XK)):wJ:=fun f=>match tab.lookup f with
 |some k=>some (mx k)
 |none=>none
section
variable {P:Program} {G:Gh} {B:Nat} {W0:World} {h h':zg} {w:World}
theorem zBs{loc off ver lim:Nat}{x:AV}(hr:HR G B h w){r:Ver}(ha:G.at loc ver=some r)(he:wr h loc off ver lim [x]=some h'):∃ ys,rd h loc off ver lim 1=some ys:=by
 obtain⟨b,vs,hb,hg,hv,hR⟩:=hr.get ha
 unfold wr at he
 unfold rd
 rw[hb] at he |-
 cases b with
 |row cells v minv frz ro tt=>
  cases ro with
  |true=>simp at he
  |false=>
   simp only at he
   split at he
   ·rename_i hc
    rcases hR with rfl|hR
    ·simp at hv
    have hm:=hR.zaC
    obtain⟨rfl,h1,h2,h3⟩:=hc
    simp only
    rw[if_pos ⟨hm,h2⟩]
    exact⟨_,rfl⟩
   ·cases he
 |lay cells=>simp at he
 |map es=>simp at he
 |iter s pos=>simp at he
 |dead=>simp at he
 |loop env ps asg body st pd=>simp at he
 |dfr=>simp at he
 |zfS m=>simp at he
 |gone=>simp at he
theorem zAa{loc off ver lim:Nat}{x:AV}(he:wr h loc off ver lim [x]=some h'):x.one=true:=by
 unfold wr at he
 split at he
 ·split at he
  ·rename_i hc;simpa using hc.2.2.2
  ·cases he
 ·cases he
theorem ziZ{loc off ver lim:Nat}{x:AV}{u:Value}{r:Ver}(m:Mode)(hr:HR G B h w)(he:wr h loc off ver lim [x]=some h')(ha:G.at loc ver=some r)(h1:r.lo<=off)(h2:lim<=r.top)(hx:V G x u):
  ∃ w',(store ⟨r.b,off+r.sh-r.lo,none⟩ u m).run P w=.ok () w'/\Step G G B h' w w'/\w.frozen? ⟨r.b,off+r.sh-r.lo,none⟩=false/\w'=w.setCell ⟨r.b,off+r.sh-r.lo,none⟩ u:=by
 obtain⟨ys,hrd⟩:=zBs hr ha he
 obtain⟨us,k1,k2,k3⟩:=qV hr hrd ha h1 h2
 obtain⟨y,rfl⟩:=vn.1 k2
 have hc:=k3 0 y rfl
 rw[yJ] at hc
 obtain⟨w',hrun,hS⟩:=zhX (P:=P) hr he ha h1 h2 (.cons hx .nil)
 have ho:=hx.one (zAa he)
 have hadd:(⟨r.b,off+r.sh-r.lo,none⟩:Addr).add 0=⟨r.b,off+r.sh-r.lo,none⟩:=by simp [Addr.add]
 have hst:∀ m,(store ⟨r.b,off+r.sh-r.lo,none⟩ u m).run P w=if w.frozen? ⟨r.b,off+r.sh-r.lo,none⟩ then .halt (.unsupported (.unsafePointer "a write to bytes that a string shares")) w else .ok () (w.setCell ⟨r.b,off+r.sh-r.lo,none⟩ u):=fun m=>by
  rw[run_store P w _ _ m ho,hc]
 simp only[storeCells,hadd,Sem.run_bind] at hrun
 rw[hst] at hrun
 cases hz:w.frozen? ⟨r.b,off+r.sh-r.lo,none⟩ with
 |true=>rw[hz] at hrun;cases hrun
 |false=>
  rw[hz] at hrun
  refine⟨w',?_,hS,rfl,?_⟩
  ·rw[hst,hz]
   exact hrun
  ·cases hrun;rfl
theorem zeI:∀ (l:List UInt8) (a:Addr) (acc:ByteArray),(∀ j x,l[j]?=some x->w.cell? (a.add j)=some (.int .u8 x.toNat)) ->
  (Extern.Bytes.loadBytes a l.length acc).run P w=.ok ⟨acc.data++l.toArray⟩ w
 | [],a,acc,_=>by simp [Extern.Bytes.loadBytes]
 |x::l,a,acc,h=>by
  have h0:w.cell? a=some (.int .u8 x.toNat):=by
   have:=h 0 x rfl
   simpa [Addr.add] using this
  have ih:=zeI l (a.add 1) (acc.push x) (fun j y hy=>by
   have:=h (j+1) y (by simpa using hy)
   rwa [show(a.add 1).add j=a.add (j+1) from by
    unfold Addr.add
    by_cases hj:j=0
    ·subst hj;simp
    ·simp [hj];omega])
  have hx:((x.toNat:Int).toNat).toUInt8=x:=by simp
  simp only[ve,Extern.Bytes.loadBytes,Sem.run_bind,run_load,h0,Result.andThen_ok,hx]
  rw[ih]
  simp [ByteArray.push]
theorem zcp{x:AV}{u:Value}{l:List UInt8}(hr:HR G B h w)(he:zg0 h x=some l)(hx:V G x u):(Extern.Bytes.bytesOf u).run P w=.ok ⟨l.toArray⟩ w:=by
 unfold zg0 at he
 split at he
 ·cases he;cases hx;rfl
 ·cases he;cases hx;rfl
 ·split at he
  ·rename_i loc off len ver clip _ cs hrd
   cases hx with
   | @sl _ _ _ _ _ cap _ r g1 g2 g3 g4 g5 g6 g7 g8 g9=>
    obtain⟨us,o1,o2,o3⟩:=qV hr hrd g1 g2 (by omega)
    have hub:=wc he o1
    have hln:l.length=len:=by rw[<- o2,hub];simp
    have:=zeI (P:=P) (w:=w) l ⟨r.b,off+r.sh-r.lo,none⟩ .empty (fun j x hj=>by
     rw[Addr.add_lit]
     exact o3 j _ (by rw[hub];simp [hj]))
    rw[hln] at this
    show(Extern.Bytes.loadBytes _ _ _).run P w=_
    rw[this]
    simp
   | @sl0 _ _ _ _ o _ r g1 g2 g3 g6 g9=>
    obtain⟨us,o1,o2,o3⟩:=qV hr hrd g1 g2 (by omega)
    have hub:=wc he o1
    obtain rfl:l=[]:=by
     have:us=[]:=List.eq_nil_of_length_eq_zero o2
     rw[this] at hub
     cases l with
     |nil=>rfl
     |cons=>simp at hub
    rfl
  ·cases he
 ·cases he
theorem zjx(c:UInt8)(L:List UInt8):∀ (l:List UInt8) (i:Nat),L.drop i=l->(match(List.range' i l.length).find? fun j=>(⟨L.toArray⟩:ByteArray)[j]! == c with|some j=>goInt j|none=>goInt (-1))=Value.int .i64 (ke c l i)
 | [],i,h=>by simp [ke,goInt]
 |x::l,i,h=>by
  have hlt:i<L.length:=by
   rcases Nat.lt_or_ge i L.length with h1|h1
   ·exact h1
   ·rw[List.drop_eq_nil_of_le h1] at h;cases h
  have hx:L[i]=x:=by
   have:=yE hlt
   rw[h] at this
   exact(vU this).1.symm
  have hl:L.drop (i+1)=l:=by
   have:=yE hlt
   rw[h] at this
   exact(vU this).2.symm
  have ih:=zjx c L l (i+1) hl
  have hg:(⟨L.toArray⟩:ByteArray)[i]! = x:=by
   rw[getElem!_pos (⟨L.toArray⟩:ByteArray) i (show i<L.toArray.size by simpa using hlt)]
   exact hx
  simp only[ve,List.range'_succ,List.find?_cons,hg,ke]
  cases hc:x==c with
  |true=>simp [goInt]
  |false=>simpa using ih
theorem zk4{u:Value}{c:Int}{l:List UInt8}(hb:(Extern.Bytes.bytesOf u).run P w=.ok ⟨l.toArray⟩ w):(Extern.BytealgIndexByte.indexByte #[u,.int .u8 c]).run P w=.ok (.int .i64 (ke c.toNat.toUInt8 l 0)) w:=by
 have hf:=zjx c.toNat.toUInt8 l l 0 rfl
 rw[<- hf]
 change Sem.run P (do
  let b <- Extern.Bytes.bytesOf u
  let c' <- Extern.Bytes.asByte (.int .u8 c)
  match(vd b.size).find? fun i=>b[i]! == c' with
  |some i=>pure (goInt i)
  |none=>pure (goInt (-1))) w=_
 simp only[Sem.run_bind,hb,Result.andThen_ok,Extern.Bytes.asByte,Sem.run_pure]
 rw[show(⟨l.toArray⟩:ByteArray).size=l.length from by simp [ByteArray.size],List.range_eq_range']
 split<;>rfl
theorem zsJ{u:Value}{c:Int}{l:List UInt8}(hb:(Extern.Bytes.bytesOf u).run P w=.ok ⟨l.toArray⟩ w):(Extern.BytealgCount.count #[u,.int .u8 c]).run P w=.ok (.int .i64 (Go.Lib.countByte l c.toNat.toUInt8)) w:=by
 have h:=Go.Lib.run_countString (P:=P) ⟨l.toArray⟩ c w
 have e:(Extern.BytealgCount.count #[u,.int .u8 c]).run P w=(Extern.BytealgCount.count #[.string ⟨l.toArray⟩,.int .u8 c]).run P w:=by
  change Sem.run P (do
   let b <- Extern.Bytes.bytesOf u
   let c' <- Extern.Bytes.asByte (.int .u8 c)
   pure (goInt (b.foldl (fun n x=>if x==c' then n+1 else n) (0:Nat)))) w=Sem.run P (do
   let b <- Extern.Bytes.bytesOf (.string ⟨l.toArray⟩)
   let c' <- Extern.Bytes.asByte (.int .u8 c)
   pure (goInt (b.foldl (fun n x=>if x==c' then n+1 else n) (0:Nat)))) w
  simp only[Sem.run_bind,hb]
  rfl
 rw[e]
 simpa using h
theorem rd1{loc off ver lim:Nat}{x:AV}{r:Ver}(hr:HR G B h w)(hrd:rd h loc off ver lim 1=some [x])(ha:G.at loc ver=some r)(h1:r.lo<=off)(h2:lim<=r.top):∃ u,V G x u/\w.cell? ⟨r.b,off+r.sh-r.lo,none⟩=some u:=by
 obtain⟨us,k1,k2,k3⟩:=qV hr hrd ha h1 h2
 obtain⟨y,rfl⟩:=vn.1 k2
 cases k1 with
 |cons k1 _=>exact⟨y,k1,by simpa using k3 0 y rfl⟩
theorem run_read{k:IntKind}{n:Int}{a:Addr}(h:w.cell? a=some (.int k n)):(Extern.Atomic.read (.int k) a).run P w=.ok (.int k n) w:=by
 simp [Extern.Atomic.read,h]
theorem zsN{k:IntKind}{n:Int}{a:Addr}(h:w.cell? a=some (.int k n)):(Extern.Atomic.loadT (.int k) #[.pointer (some a)]).run P w=.ok (.int k n) w:=by
 show Sem.run P (do Extern.Atomic.read (.int k) (<- asAddr (.pointer (some a)))) w=_
 simp [asAddr,run_read h]
theorem zqk{a:Addr}{u:Value}{w':World}(h:(store a u .atomic).run P w=.ok () w'):(Extern.Atomic.storeT #[.pointer (some a),u]).run P w=.ok (.tuple #[]) w':=by
 show Sem.run P (do
  store (<- asAddr (.pointer (some a))) u .atomic
  pure Extern.Atomic.none_) w=_
 simp [asAddr,h,Extern.Atomic.none_]
theorem zxn{k:IntKind}{n y:Int}{k1:IntKind}{a:Addr}{w':World}(hc:w.cell? a=some (.int k n))(h:(store a (.int k (k.wrap (n+y))) .atomic).run P w=.ok () w'):
  (Extern.Atomic.update (Op.intArith .add) k true #[.pointer (some a),.int k1 y]).run P w=.ok (.int k (k.wrap (n+y))) w':=by
 show Sem.run P (do
  let a <- asAddr (.pointer (some a))
  let old <- Extern.Atomic.read (.int k) a
  let new <- Op.intArith .add k (<- asInt old) (<- asInt (.int k1 y))
  store a new .atomic
  pure (if true then new else old)) w=_
 simp [asAddr,run_read hc,asInt,asIntOf,Op.intArith,h]
theorem zlI:∀ (n t:Nat) (acc:Array Value),(∀ (i:Nat) (u:Value),acc[i]?=some u->∃ z,u=Value.int .u8 z)->∀ (i:Nat) (u:Value),(Extern.BytealgMakeNoZero.digits n t acc)[i]?=some u->∃ z,u=Value.int .u8 z
 |0,_,acc,h=>h
 |n+1,t,acc,h=>by
  rw[Extern.BytealgMakeNoZero.digits]
  refine zlI n _ _ fun i u hi=>?_
  rw[Array.getElem?_push] at hi
  split at hi
  ·cases hi;exact⟨_,rfl⟩
  ·exact h i u hi
theorem ziG(w:World)(ps:Array TypeId)(t e:TypeId)(ht:P.underlying t=some (.slice e))(n:Nat)(hn:n<=281474976710656):
  ∃ cs:Array Value,(Extern.BytealgMakeNoZero.makeNoZero ps #[t] #[.int .i64 n]).run P w=.ok (.slice (some ⟨w.heap.size,0,none⟩) n cs.size) (w.drew.drew.alloc (.cells cs e))/\n<=cs.size/\(n<=maxLen->cs.size<=maxLen)/\∀ (i:Nat) (u:Value),cs[i]?=some u->∃ z,u=Value.int .u8 z:=by
 have hdef:Extern.BytealgMakeNoZero.makeNoZero ps #[t] #[.int .i64 n] =
   (do
    let .slice elem <- underlying t|stuck "bytealg.MakeNoZero: slice type expected"
    if(n:Int)<0||(n:Int) > 2 ^ 48 then runtimePanic (.error "makeslice: len out of range")
    let cap <- choose (.appendCap (n:Int).toNat 0 elem)
    askRoom cap
    let bytes <- choose (.extern "internal/bytealg.MakeNoZero.bytes" 0)
    let a <- newRow elem (Extern.BytealgMakeNoZero.digits cap bytes #[])
    pure (.slice (some a) (n:Int).toNat cap)):=rfl
 refine⟨Extern.BytealgMakeNoZero.digits (grownCap w n 0 e) ((Question.extern "internal/bytealg.MakeNoZero.bytes" 0).cut (w.tape (w.drawn+1) (.extern "internal/bytealg.MakeNoZero.bytes" 0))) #[],?_,?_,?_,zlI _ _ _ (by simp)⟩
 ·rw[hdef]
  have h1:¬ (n:Int)<0:=by omega
  have h2:¬ (281474976710656:Int)<(n:Int):=by omega
  simp [run_underlying ht,h1,h2,Question.forced,newRow,Lib.size_digits,grownCap]
 ·rw[Lib.size_digits]
  simpa using grownCap_ge w n 0 e
 ·intro hm
  rw[Lib.size_digits]
  simpa using grownCap_le_maxLen w n 0 e hm
theorem zi7{n:String}{g:Nat}(h:P.globals.findIdx? (·.name==n)=some g):g<P.globals.size:=by
 rw[Array.findIdx?_eq_some_iff_getElem] at h
 exact h.1
theorem zrF{loc:Nat}{x:AV}{r:Ver}(hr:HR G B h w)(he:h[loc]?=some (.lay [x]))(ha:G.at loc 0=some r):∃ u,V G x u/\w.cell? ⟨r.b,r.sh,none⟩=some u:=by
 obtain⟨b,vs,hb,hg,hv,hR⟩:=hr.get ha
 rw[he] at hb;cases hb
 rcases hR with rfl|⟨r0,rfl,hl,ht,c,T,fr,q1,q2,q3,q4⟩
 ·simp at hv
 ·simp at hv
  subst hv
  obtain⟨x',u,e1,e2,e3⟩:=q4 0 (by rw[ht];simp)
  simp at e1
  subst e1
  refine⟨u,e3,?_⟩
  rw[yG] at e2
  rw[World.cell?,q1]
  simpa using e2
theorem zku(l:List UInt8)(i n:Nat):(⟨l.toArray⟩:ByteArray).extract i (i+n)=⟨((l.drop i).take n).toArray⟩:=by
 apply ByteArray.ext
 rw[ByteArray.data_extract]
 simp
theorem zqR(a b:List UInt8):((⟨a.toArray⟩:ByteArray)==⟨b.toArray⟩)=(a==b):=by
 rw[show((⟨a.toArray⟩:ByteArray)==⟨b.toArray⟩)=(a.toArray==b.toArray) from rfl]
 simp
theorem zsK{a b:Value}{la lb:List UInt8}{g:Nat}{m:Int}(ha:(Extern.Bytes.bytesOf a).run P w=.ok ⟨la.toArray⟩ w)(hb:(Extern.Bytes.bytesOf b).run P w=.ok ⟨lb.toArray⟩ w)(hg:P.globals.findIdx? (·.name == "internal/bytealg.MaxLen")=some g)
  (hc:w.cell? ⟨g,0,none⟩=some (.int .i64 m)) (h2:2<=lb.length) (hm:(lb.length:Int)<=m) (hl:la.length<4294967281):(Extern.BytealgIndex.index #[a,b]).run P w=.ok (.int .i64 (idxOf la lb)) w:=by
 have hmax:(Extern.BytealgIndex.maxLen).run P w=.ok m w:=by
  simp [Extern.BytealgIndex.maxLen,globalAddr,hg,run_load,hc,asInt,asIntOf]
 have e1:(⟨la.toArray⟩:ByteArray).size=la.length:=by simp [ByteArray.size]
 have e2:(⟨lb.toArray⟩:ByteArray).size=lb.length:=by simp [ByteArray.size]
 have c1:¬ lb.length<2:=by omega
 have c2:¬ m<(lb.length:Int):=by omega
 have c3:¬ 4294967281<=la.length:=by omega
 have e3:((vd (la.length+1-lb.length)).find? fun i=>(⟨la.toArray⟩:ByteArray).extract i (i+lb.length)==⟨lb.toArray⟩)=(vd (la.length+1-lb.length)).find? fun i=>(la.drop i).take lb.length==lb:=by
  congr 1
  funext i
  rw[zku]
  exact(zqR _ _)
 change Sem.run P (do
  let a <- Extern.Bytes.bytesOf a
  let b <- Extern.Bytes.bytesOf b
  if b.size<2||(b.size:Int) > (<- Extern.BytealgIndex.maxLen) then
   unsupported (.noEntry "extern/internal/bytealg.Index.length")
  if a.size ≥ 2 ^ 32-15 then
   unsupported (.noEntry "extern/internal/bytealg.Index: a haystack of 2^32 - 15 bytes or more")
  match(vd (a.size+1-b.size)).find? fun i=>a.extract i (i+b.size)==b with
  |some i=>pure (goInt i)
  |none=>pure (goInt (-1))) w=_
 simp only[Sem.run_bind,ha,hb,hmax,Result.andThen_ok,e1,e2,e3]
 simp [c1,c2,c3,idxOf]
 cases hq:(vd (la.length+1-lb.length)).find? fun i=>(la.drop i).take lb.length==lb with
 |none=>simp [goInt]
 |some i=>simp [goInt]
theorem zut{k:XK}{f:FuncId}(hf:XFn P f k){args:List AV}{r:CR}(hm:mx k args h=some r):zi4 P B W0 f args h r:=by
 intro G us w hx hr hg
 obtain⟨fn,e,f1,f2,f3,f4,f5,f6⟩:=hf
 refine .inr ?_
 have hrun:=run_callFunc_extern f1 f2 f3 f4 f5 us.toArray w
 have done:∀ {v:AV} {h':zg} {u:Value} {w':World} {G':Gh},r=.ret v h'->(e us.toArray).run P w=.ok u w'->Step G G' B h' w w'->V G' v u ->
   ∃ v h' u w' G',r=.ret v h'/\(callFunc f us.toArray).run P w=.ok (.value u) w'/\Step G G' B h' w w'/\V G' v u:=fun h1 h2 h3 h4=>⟨_,_,_,_,_,h1,by rw[hrun,h2];rfl,h3,h4⟩
 unfold mx at hm
 split at hm
 ·
  cases hm
  obtain rfl:=f6
  cases hx with
  |cons h1 h2=>cases h2;exact done rfl rfl (.refl hr) h1
 ·
  rename_i t el n
  obtain⟨⟨ps,rfl⟩,ht⟩:=f6
  split at hm
  ·rename_i hn
   cases hm
   cases hx with
   |cons h1 h2=>
    cases h2
    have:=zai h1
    subst this
    obtain⟨m,rfl⟩:∃ m:Nat,n=(m:Int):=⟨n.toNat,by omega⟩
    obtain⟨cs,hrun,hle,hmx,hc8⟩:=ziG (P:=P) w ps t el ht m (by omega)
    have hmm:=hmx (by simp only[maxLen];omega)
    have hr2:(Int.toNat (m:Int))=m:=by simp
    have hvl:VL G (yn m AV.any) (cs.toList.take m):=VL.zf1 (by simp;omega) (fun i x u e1 e2=>by
     rw[vN] at e1
     split at e1
     ·cases e1
      rename_i hi
      rw[vK hi,yZ] at e2
      obtain⟨z,hz⟩:=hc8 i u e2
      rw[hz]
      exact .any z
     ·cases e1)
    have hS:=Step.newRow (c:=cs) (T:=el) (w':=w.drew.drew.alloc (.cells cs el)) hr hvl
     (fun p hp=>by rw[vK (by simpa using hp),yZ])
     (heap_alloc_new w.drew.drew _) (by simp) (fun b hb=>(zfs.alloc [] w.drew.drew _).block b hb (by simp)) rfl rfl rfl
    rw[hr2]
    refine done rfl hrun hS ?_
    rw[<- hr.len]
    exact .sl (r:=⟨w.heap.size,0,(yn m AV.any).length,_,0⟩) (by rw[zbX];rfl) (yb _) (by simp) hle (by simp) (fun e=>by cases e) (fun _=>by simp;omega) hmm (by omega)
  ·cases hm
 ·
  obtain rfl:=f6
  split at hm
  ·rename_i l hl
   cases hm
   rename_i c _
   cases hx with
   |cons h1 h2=>cases h2 with
    |cons h3 h4=>
     cases h4
     have:=zai h3
     subst this
     refine done rfl ?_ (.refl hr) (.int _ _)
     have hb:=zcp (P:=P) hr hl h1
     exact zk4 hb
  ·cases hm
 ·
  rename_i g a b
  obtain⟨rfl,hgn⟩:=f6
  split at hm
  ·rename_i la lb lo hi h1 h2 h3
   split at hm
   ·rename_i hc
    obtain⟨c1,c2,c3⟩:=hc
    cases hm
    cases hx with
    |cons x1 x2=>cases x2 with
     |cons x3 x4=>
      cases x4
      refine done rfl ?_ (.refl hr) (.int _ _)
      have hgl:g<P.globals.size:=zi7 hgn
      obtain⟨rr,e1,e2,e3,e4⟩:=hg.g g hgl
      obtain⟨u,o1,hcell⟩:=zrF hr h3 e1
      cases o1 with
      | @iv _ _ m m1 m2=>
        rw[e2,e4] at hcell
        exact zsK (zcp (P:=P) hr h1 x1) (zcp (P:=P) hr h2 x3) hgn hcell c1 (by omega) c3
   ·cases hm
  ·cases hm
 ·
  obtain rfl:=f6
  rename_i k loc off ver lim
  cases hx with
  |cons h1 h2=>
   cases h2
   cases h1 with
   |ptr g1 g2 g3=>
    split at hm
    ·rename_i k' n hrd
     split at hm
     ·rename_i hk
      subst hk
      cases hm
      obtain⟨u,k1,k2⟩:=rd1 hr hrd g1 g2 g3
      rw[zai k1] at k2
      exact done rfl (zsN k2) (.refl hr) (.int _ _)
     ·cases hm
    ·cases hm
 ·
  obtain rfl:=f6
  rename_i loc off ver lim x
  split at hm
  ·rename_i h' hw
   cases hm
   cases hx with
   |cons h1 h2=>cases h2 with
    |cons h3 h4=>
     cases h4
     cases h1 with
     |ptr g1 g2 g3=>
      obtain⟨w',hst,hS,_⟩:=ziZ (P:=P) .atomic hr hw g1 g2 g3 h3
      exact done rfl (zqk hst) hS (.tup .nil)
  ·cases hm
 ·
  obtain rfl:=f6
  rename_i k loc off ver lim k1 o k2 y
  split at hm
  ·rename_i k' n h' hrd hw
   split at hm
   ·rename_i hk
    obtain⟨rfl,rfl,rfl⟩:=hk
    cases hx with
    |cons h1 h2=>cases h2 with
     |cons h3 h4=>cases h4 with
      |cons h5 h6=>
       cases h6
       have:=zai h3
       subst this
       have:=zai h5
       subst this
       cases h1 with
       | @ptr _ _ _ _ r g1 g2 g3=>
        obtain⟨w',hst,hS,hfr,hset⟩:=ziZ (P:=P) .atomic hr hw g1 g2 g3 h5
        obtain⟨u,e1,e2⟩:=rd1 hr hrd g1 g2 g3
        rw[zai e1] at e2
        split at hm
        ·rename_i hno
         cases hm
         subst hno
         exact⟨_,_,_,_,_,rfl,run_call_cas_hit f1 f2 f3 f4 _ f5 e2 hfr,hset ▸ hS,.bool true⟩
        ·rename_i hno
         cases hm
         exact⟨_,_,_,_,_,rfl,run_call_cas_miss f1 f2 f3 f4 _ f5 e2 hfr hno,.refl hr,.bool false⟩
   ·cases hm
  ·cases hm
 ·
  obtain rfl:=f6
  rename_i k loc off ver lim k1 y
  split at hm
  ·rename_i k' n hrd
   split at hm
   ·rename_i hk
    subst hk
    split at hm
    ·rename_i h' hw
     cases hm
     cases hx with
     |cons h1 h2=>cases h2 with
      |cons h3 h4=>
       cases h4
       have:=zai h3
       subst this
       cases h1 with
       |ptr g1 g2 g3=>
        obtain⟨w',hst,hS,hfr⟩:=ziZ (P:=P) .atomic hr hw g1 g2 g3 (.int _ _)
        obtain⟨u,e1,e2⟩:=rd1 hr hrd g1 g2 g3
        rw[zai e1] at e2
        exact done rfl (zxn e2 hst) hS (.int _ _)
    ·cases hm
   ·cases hm
  ·cases hm
 ·
  obtain rfl:=f6
  split at hm
  ·rename_i l hl
   cases hm
   rename_i c _
   cases hx with
   |cons h1 h2=>cases h2 with
    |cons h3 h4=>
     cases h4
     have:=zai h3
     subst this
     exact done rfl (zsJ (zcp (P:=P) hr hl h1)) (.refl hr) (.int _ _)
  ·cases hm
 ·
  obtain⟨m,rfl⟩:=f6
  cases hm
  cases hx
  exact⟨_,_,_,_,_,rfl,run_call_mark0 f1 f2 f3 f4 m f5 w,.refl hr,.tup .nil⟩
 ·obtain⟨m,rfl⟩:=f6
  cases hm
  cases hx with
  |cons h1 h2=>
   cases h2
   cases h1 with
   |ptr g1 g2 g3=>exact⟨_,_,_,_,_,rfl,run_call_marked f1 f2 f3 f4 m f5 _ w,.refl hr,.tup .nil⟩
 ·cases hm
theorem zcR{f:FuncId}{k:XK}:∀ {tab:List (FuncId×XK)},tab.lookup f=some k->(f,k) ∈ tab
 | [],hk=>by cases hk
 |p::t,hk=>by
  rw[List.lookup_cons] at hk
  split at hk
  ·rename_i he
   cases hk
   have:=eq_of_beq he
   subst this
   exact List.mem_cons_self
  ·exact List.mem_cons_of_mem _ (zcR hk)
theorem zw6{tab:List (FuncId×XK)}(h:∀ f k,(f,k) ∈ tab->XFn P f k)(B:Nat)(W0:World):zhY P B W0 (zkV tab):=by
 intro f g hg args h' r hr
 unfold zkV at hg
 split at hg
 ·rename_i k hk
  cases hg
  refine zut (h f k ?_) hr
  exact zcR hk
 ·cases hg
end
end Go.Mx
namespace Go.Sx
open Go Go.Gx Go.Mx
inductive U where
 |bool|int (k:IntKind)|u8|str|sl (u:U)|pair (a b:U)|unit
 deriving DecidableEq,Inhabited
@[reducible] def El:U->Type
 |.bool=>Bool
 |.int _=>Int
 |.u8=>UInt8
 |.str=>List UInt8
 |.sl u=>List (El u)
 |.pair a b=>El a×El b
 |.unit=>Unit
def U.sz:U->Nat
 |.pair a b=>a.sz+b.sz
 |.unit=>0
 |_=>1
def U.agg:U->Bool
 |.pair _ _=>true
 |.unit=>true
 |_=>false
def U.zero:(u:U)->El u
 |.bool=>false
 |.int _=>(0:Int)
 |.u8=>(0:UInt8)
 |.str=>([]:List UInt8)
 |.sl _=>[]
 |.pair a b=>(a.zero,b.zero)
 |.unit=>()
def nth(u:U)(l:List (El u))(i:Nat):El u:=l.getD i u.zero
def slice{α:Type}(l:List α)(a b:Nat):List α:=(l.drop a).take (b-a)
def zf{α:Type}(l:List α)(a:Nat):List α:=slice l a (Int.toNat ((vg l:Nat):Int))
inductive SV where
 |a (v:AV)
 |u8 (b:UInt8)
 |ptr (loc off lim:Nat)
 |zks (loc n:Nat) (i fo:Nat)
 |zi2 (u:U) (x:El u) (fo:Nat)
 |gs (loc n:Nat)
 |sl (loc n:Nat) (off len:Nat) (clip:Bool)
 |isl (u:U) (l:List (El u))
 |cl (u:U) (l:List (El u))
 |nsl (u:U) (l:List (El u))
 |lsl (n:Nat)
 |zpK (loc n len:Nat)
 |zyO (loc n:Nat)
 |csl (loc off n sz:Nat)
 |map (loc:Nat)
 |zxP (ks vs:List SV)
 |fn (f:FuncId) (first cap:List SV)
 |ifc (t:TypeId) (v:SV)
 |agg (l:List SV)
 |tup (l:List SV)
 |zjA (g off lim:Nat)
 |yld (loc:Nat)
 |top
 deriving Inhabited
def SV.cells:SV->List SV
 |.agg l=>l
 |v=>[v]
def SV.one:SV->Bool
 |.agg _|.tup _|.top=>false
 |.a v=>v.one
 |_=>true
inductive SB where
 |cells (l:List SV) (md:Nat) (mk:Option TypeId:=none)
 |seq (u:U) (l:List (El u)) (n md:Nat)
 |map (ks vs:List SV) (md:Nat)
 |kv (u v:U) (l:List (El u×El v)) (md:Nat)
 |loop (env:List SV) (id:Nat) (md:Nat)
 |gone
 deriving Inhabited
abbrev SH:=List SB
def enc:(u:U)->El u->List SV
 |.bool,b=>[.a (.bool b)]
 |.int k,n=>[.a (.int k n)]
 |.u8,b=>[.u8 b]
 |.str,l=>[.a (.str l)]
 |.sl u,l=>[.isl u l]
 |.pair u v,x=>enc u x.1++enc v x.2
 |.unit,_=>[]
def zm4:(u:U)->El u->SV
 |.bool,b=>.a (.bool b)
 |.int k,n=>.a (.int k n)
 |.u8,b=>.u8 b
 |.str,l=>.a (.str l)
 |.sl u,l=>.isl u l
 |.pair u v,x=>.agg (enc (.pair u v) x)
 |.unit,x=>.agg []
def kvK(u v:U)(l:List (El u×El v)):List SV:=l.map fun p=>zm4 u p.1
def kvV(u v:U)(l:List (El u×El v)):List SV:=l.map fun p=>zm4 v p.2
def zbr(u v:U)(l:List (El u)):Option (List (El v)):=if h:u=v then some (h ▸ l) else none
structure Gst where
 h:zg
 Φ:Nat->Prop
 σ:List (Option (Nat×Nat))
 sh:SH
def part(sz:Nat)(cs:List AV)(i:Nat):List AV:=(cs.drop (i*sz)).take sz
def RE(h:zg)(Φ:Nat->Prop):(u:U)->El u->List AV->Prop
 |.bool,b,cs=>cs=[.bool b]
 |.int k,n,cs=>cs=[.int k n]
 |.u8,b,cs=>cs=[.int .u8 (b.toNat:Int)]
 |.str,l,cs=>cs=[.str l]
 |.sl u,l,cs=>∃ x,cs=[x]/\((l=[]/\x=.qC)\/∃ m off ver c' cs',x=.sl m off (vg l) u.sz ver c'/\(c'=false\/l=[])/\Φ m/\rd h m off ver (off+vg l*u.sz) (vg l*u.sz)=some cs'/\cs'.length=vg l*u.sz /\
   ∀ i e,(l:List (El u))[i]?=some e->RE h Φ u e (part u.sz cs' i))
 |.pair u v,x,cs=>∃ c1 c2,cs=c1++c2/\RE h Φ u x.1 c1/\RE h Φ v x.2 c2
 |.unit,_,cs=>cs=[]
def RCs(h:zg)(Φ:Nat->Prop)(u:U)(l:List (El u))(cs:List AV):Prop:=cs.length=l.length*u.sz/\∀ i e,l[i]?=some e->RE h Φ u e (part u.sz cs i)
def RSl(h:zg)(Φ:Nat->Prop)(c:Bool)(u:U)(l:List (El u))(x:AV):Prop:=
 (l=[]/\x=.qC)\/∃ m off ver c' cs,x=.sl m off l.length u.sz ver c'/\(c'=c\/l=[])/\Φ m/\rd h m off ver (off+l.length*u.sz) (l.length*u.sz)=some cs/\RCs h Φ u l cs
def zwF:AV->Prop
 |.sl _ _ _ _ _ c=>c=true
 |_=>True
theorem zww{h:zg}{Φ:Nat->Prop}{u:U}{l:List (El u)}{cs:List AV}:RE h Φ (.sl u) l cs↔∃ x,cs=[x]/\RSl h Φ false u l x:=Iff.rfl
def Gst.at(X:Gst)(loc m:Nat):Prop:=∃ v,X.σ[loc]?=some (some (m,v))
def Gst.cur(X:Gst)(loc n:Nat)(Q:(u:U)->Nat->Option (Nat×Nat)->Prop):Prop:=
 ∃ o,X.σ[loc]?=some o/\∀ u l k md,X.sh[loc]?=some (.seq u l k md)->n<=k/\(n=k->Q u l.length o)
mutual
def RV(X:Gst):SV->AV->Prop
 |.a v,x=>x=v
 |.u8 b,x=>x=.int .u8 (b.toNat:Int)
 |.ptr loc off lim,x=>∃ m,X.at loc m/\x=.ptr m off 0 lim
 |.zks loc n i fo,x=>x.one=true/\X.cur loc n fun u len o=>i<len/\∃ m ver lim,o=some (m,ver)/\x=.ptr m (i*u.sz+fo) ver lim/\(i+1)*u.sz<=lim
 |.zi2 u e fo,x=>∃ m off ver lim cs,x=.ptr m (off+fo) ver lim/\X.Φ m/\off+u.sz<=lim/\(∃ lim',rd X.h m off ver lim' u.sz=some cs)/\cs.length=u.sz/\RE X.h X.Φ u e cs
 |.gs loc n,x=>x.one=true/\X.cur loc n fun u len o=>match o with
  |some (m,ver)=>x=.sl m 0 len u.sz ver false
  |none=>x=.qC/\len=0
 |.sl loc n off len c,x=>x.one=true/\X.cur loc n fun u k o=>off+len<=k/\match o with
  |some (m,ver)=>x=.sl m (off*u.sz) len u.sz ver c
  |none=>x=.qC
 |.isl u l,x=>RSl X.h X.Φ false u l x
 |.cl u l,x=>RSl X.h X.Φ true u l x/\zwF x
 |.nsl u l,x=>∃ m off ver c' cs,x=.sl m off l.length u.sz ver c'/\(c'=false\/l=[])/\X.Φ m/\rd X.h m off ver (off+l.length*u.sz) (l.length*u.sz)=some cs/\RCs X.h X.Φ u l cs
 |.lsl n,x=>(n=0/\x=.qC)\/∃ m off sz ver c,x=.sl m off n sz ver c
 |.zyO loc n,x=>x.one=true/\X.cur loc n fun u l o=>∃ m ver,o=some (m,ver)/\x=.ptr m 0 ver (l*u.sz)
 |.zpK loc n len,x=>x.one=true/\X.cur loc n fun u l o=>len=l/\∃ m,o=some (m,0)/\x=.ptr m 0 0 (len*u.sz)
 |.csl loc off n sz,x=>∃ m,X.at loc m/\x=.sl m off n sz 0 false
 |.map loc,x=>∃ m,X.at loc m/\x=.map m
 |.zxP ks vs,x=>∃ m es,x=.map m/\X.Φ m/\X.h[m]?=some (.map es)/\RVs X ks (es.map (·.1))/\RVs X vs (es.map (·.2))
 |.fn f a b,x=>∃ a' b',x=.fn f a' b'/\RVs X a a'/\RVs X b b'
 |.ifc t v,x=>∃ v',x=.ifc t v'/\RV X v v'
 |.agg l,x=>∃ l',x=.agg l'/\RVs X l l'
 |.tup l,x=>∃ l',x=.tup l'/\RVs X l l'
 |.zjA g off lim,x=>x=.ptr g off 0 lim
 |.yld loc,x=>∃ m,X.at loc m/\x=.yld m
 |.top,_=>True
def RVs(X:Gst):List SV->List AV->Prop
 | [],l=>l=[]
 |v::vs,l=>∃ x xs,l=x::xs/\RV X v x/\RVs X vs xs
end
structure Gst.le(X Y:Gst):Prop where
 h:∀ m,X.Φ m->Y.h[m]?=X.h[m]?
 Φ:∀ m,X.Φ m->Y.Φ m
 len:X.σ.length<=Y.σ.length
 at_:∀ (loc m v:Nat),X.σ[loc]?=some (some (m,v))->∃ v',Y.σ[loc]?=some (some (m,v'))
 seq:∀ (loc:Nat) (u:U) (l:List (El u)) (k md:Nat),X.sh.length > loc->Y.sh[loc]?=some (.seq u l k md)->∃ l' k' md',X.sh[loc]?=some (.seq u l' k' md')/\k'<=k/\(k'=k->l'.length=l.length/\Y.σ[loc]?=X.σ[loc]?)
 shl:X.σ.length=X.sh.length
theorem zgI{h h':zg}{m off ver lim n:Nat}(e:h'[m]?=h[m]?):rd h' m off ver lim n=rd h m off ver lim n:=by unfold rd;rw[e]
theorem RE.le{h h':zg}{Φ Φ':Nat->Prop}(hh:∀ m,Φ m->h'[m]?=h[m]?)(hΦ:∀ m,Φ m->Φ' m):∀ {u:U} {x:El u} {cs:List AV},RE h Φ u x cs->RE h' Φ' u x cs
 |.bool,_,_,q=>q
 |.int _,_,_,q=>q
 |.u8,_,_,q=>q
 |.str,_,_,q=>q
 |.sl u,l,cs,⟨x,e,q⟩=>⟨x,e,q.imp id fun⟨m,off,ver,c',cs',q1,q0,q2,q3,q4,q5⟩=>⟨m,off,ver,c',cs',q1,q0,hΦ _ q2,by rw[zgI (hh _ q2)];exact q3,q4,fun i e hi=>RE.le hh hΦ (q5 i e hi)⟩⟩
 |.pair _ _,_,_,⟨c1,c2,e,q1,q2⟩=>⟨c1,c2,e,RE.le hh hΦ q1,RE.le hh hΦ q2⟩
 |.unit,_,_,q=>q
theorem RCs.le{h h':zg}{Φ Φ':Nat->Prop}(hh:∀ m,Φ m->h'[m]?=h[m]?)(hΦ:∀ m,Φ m->Φ' m){u:U}{l:List (El u)}{cs:List AV}(q:RCs h Φ u l cs):RCs h' Φ' u l cs:=⟨q.1,fun i e hi=>(q.2 i e hi).le hh hΦ⟩
theorem RSl.le{h h':zg}{Φ Φ':Nat->Prop}(hh:∀ m,Φ m->h'[m]?=h[m]?)(hΦ:∀ m,Φ m->Φ' m){c:Bool}{u:U}{l:List (El u)}{x:AV}(q:RSl h Φ c u l x):RSl h' Φ' c u l x:=
 q.imp id fun⟨m,off,ver,c',cs',q1,q0,q2,q3,q4⟩=>⟨m,off,ver,c',cs',q1,q0,hΦ _ q2,by rw[zgI (hh _ q2)];exact q3,q4.le hh hΦ⟩
theorem Gst.zlG{X Y:Gst}(hl:X.le Y){loc n:Nat}{Q:(u:U)->Nat->Option (Nat×Nat)->Prop}(q:X.cur loc n Q):Y.cur loc n Q:=by
 obtain⟨o,h1,h2⟩:=q
 have hlt:loc<X.σ.length:=(yc.1 h1).1
 have hy:loc<Y.σ.length:=yF hlt hl.len
 refine⟨Y.σ[loc],yf hy,fun u l k md hs=>?_⟩
 obtain⟨l',k',md',h3,h4,h5⟩:=hl.seq loc u l k md (by rw[<- hl.shl];exact hlt) hs
 obtain⟨h6,h7⟩:=h2 _ _ _ _ h3
 refine⟨vD h6 h4,fun hn=>?_⟩
 have hk:k'=k:=uc h4 (hn ▸ h6)
 obtain⟨h8,h9⟩:=h5 hk
 rw[h1,yf hy] at h9
 rw[yY h9,<- h8]
 exact h7 (hn.trans hk.symm)
theorem Gst.ztT{X Y:Gst}(hl:X.le Y){loc m:Nat}(q:X.at loc m):Y.at loc m:=let⟨v,h⟩:=q;hl.at_ loc m v h
mutual
theorem RV.le{X Y:Gst}(hl:X.le Y):∀ {v:SV} {x:AV},RV X v x->RV Y v x
 |.a _,_,q=>q
 |.u8 _,_,q=>q
 |.ptr ..,_,⟨m,h1,h2⟩=>⟨m,Gst.ztT hl h1,h2⟩
 |.zks ..,_,q=>⟨q.1,Gst.zlG hl q.2⟩
 |.zi2 _ _ _,_,⟨m,off,ver,lim,cs,h1,h2,h3,⟨lim',h4⟩,h5,h6⟩=>⟨m,off,ver,lim,cs,h1,hl.Φ _ h2,h3,⟨lim',by rw[zgI (hl.h _ h2)];exact h4⟩,h5,h6.le hl.h hl.Φ⟩
 |.gs ..,_,q=>⟨q.1,Gst.zlG hl q.2⟩
 |.sl ..,_,q=>⟨q.1,Gst.zlG hl q.2⟩
 |.isl _ _,_,q=>RSl.le hl.h hl.Φ q
 |.cl _ _,_,q=>⟨RSl.le hl.h hl.Φ q.1,q.2⟩
 |.nsl _ _,_,⟨m,off,ver,c',cs',q1,q0,q2,q3,q4⟩=>⟨m,off,ver,c',cs',q1,q0,hl.Φ _ q2,by rw[zgI (hl.h _ q2)];exact q3,q4.le hl.h hl.Φ⟩
 |.lsl _,_,q=>q
 |.zpK ..,_,q=>⟨q.1,Gst.zlG hl q.2⟩
 |.zyO ..,_,q=>⟨q.1,Gst.zlG hl q.2⟩
 |.csl ..,_,⟨m,h1,h2⟩=>⟨m,Gst.ztT hl h1,h2⟩
 |.map _,_,⟨m,h1,h2⟩=>⟨m,Gst.ztT hl h1,h2⟩
 |.zxP _ _,_,⟨m,es,h1,h2,h3,h4,h5⟩=>⟨m,es,h1,hl.Φ _ h2,(hl.h _ h2).trans h3,RVs.le hl h4,RVs.le hl h5⟩
 |.fn _ _ _,_,⟨a,b,h1,h2,h3⟩=>⟨a,b,h1,RVs.le hl h2,RVs.le hl h3⟩
 |.ifc _ _,_,⟨v,h1,h2⟩=>⟨v,h1,RV.le hl h2⟩
 |.agg _,_,⟨l,h1,h2⟩=>⟨l,h1,RVs.le hl h2⟩
 |.tup _,_,⟨l,h1,h2⟩=>⟨l,h1,RVs.le hl h2⟩
 |.zjA ..,_,q=>q
 |.yld _,_,⟨m,h1,h2⟩=>⟨m,Gst.ztT hl h1,h2⟩
 |.top,_,_=>trivial
theorem RVs.le{X Y:Gst}(hl:X.le Y):∀ {v:List SV} {x:List AV},RVs X v x->RVs Y v x
 | [],_,q=>q
 |_::_,_,⟨x,xs,h1,h2,h3⟩=>⟨x,xs,h1,RV.le hl h2,RVs.le hl h3⟩
end
theorem Gst.le_refl{Y:Gst}(h:Y.σ.length=Y.sh.length):Y.le Y:=⟨fun _ _=>rfl,fun _ h=>h,yb _,fun _ _ v h=>⟨v,h⟩,fun _ _ l k md _ h=>⟨l,k,md,h,yb _,fun _=>⟨rfl,rfl⟩⟩,h⟩
theorem Gst.le_trans{a b c:Gst}(p:a.le b)(q:b.le c):a.le c:=
 ⟨fun m h=>(q.h m (p.Φ m h)).trans (p.h m h),fun m h=>q.Φ m (p.Φ m h),vD p.len q.len,fun loc m v h=>let⟨v',h'⟩:=p.at_ loc m v h;q.at_ loc m v' h',fun loc u l k md hl hs=>by
  have hb:b.sh.length > loc:=by have:=p.len;have:=p.shl;have:=q.shl;omega
  obtain⟨l',k',md',h1,h2,h3⟩:=q.seq loc u l k md hb hs
  obtain⟨l2,k2,md2,h4,h5,h6⟩:=p.seq loc u l' k' md' hl h1
  refine⟨l2,k2,md2,h4,vD h5 h2,fun e=>?_⟩
  have e1:k'=k:=uc h2 (e ▸ h5)
  obtain⟨h7,h8⟩:=h3 e1
  obtain⟨h9,h10⟩:=h6 (e.trans e1.symm)
  exact⟨h9.trans h7,h8.trans h10⟩,p.shl⟩
section
variable {X:Gst}
theorem RVs.length{l:List SV}{xs:List AV}(q:RVs X l xs):xs.length=l.length:=by
 induction l generalizing xs with
 |nil=>cases q;rfl
 |cons v l ih=>obtain⟨x,t,rfl,_,h⟩:=q;simp [ih h]
theorem RVs.get{l:List SV}{xs:List AV}(q:RVs X l xs){i:Nat}{v:SV}(h:l[i]?=some v):∃ x,xs[i]?=some x/\RV X v x:=by
 induction l generalizing xs i with
 |nil=>simp at h
 |cons w l ih=>
  obtain⟨x,t,rfl,h1,h2⟩:=q
  cases i with
  |zero=>simp at h;subst h;exact⟨x,rfl,h1⟩
  |succ i=>simpa using ih h2 (by simpa using h)
theorem RVs.append{l l':List SV}{xs xs':List AV}(q:RVs X l xs)(q':RVs X l' xs'):RVs X (l++l') (xs++xs'):=by
 induction l generalizing xs with
 |nil=>cases q;exact q'
 |cons v l ih=>obtain⟨x,t,rfl,h1,h2⟩:=q;exact⟨x,t++xs',rfl,h1,ih h2⟩
theorem RVs.take{l:List SV}{xs:List AV}(q:RVs X l xs)(n:Nat):RVs X (l.take n) (xs.take n):=by
 induction l generalizing xs n with
 |nil=>cases q;cases n<;>rfl
 |cons v l ih=>obtain⟨x,t,rfl,h1,h2⟩:=q;cases n with
  |zero=>rfl
  |succ n=>exact⟨x,t.take n,rfl,h1,ih h2 n⟩
theorem RVs.drop{l:List SV}{xs:List AV}(q:RVs X l xs)(n:Nat):RVs X (l.drop n) (xs.drop n):=by
 induction l generalizing xs n with
 |nil=>cases q;cases n<;>rfl
 |cons v l ih=>obtain⟨x,t,rfl,h1,h2⟩:=q;cases n with
  |zero=>exact⟨x,t,rfl,h1,h2⟩
  |succ n=>exact ih h2 n
theorem RVs.set{l:List SV}{xs:List AV}(q:RVs X l xs)(i:Nat){v:SV}{x:AV}(h:RV X v x):RVs X (l.set i v) (xs.set i x):=by
 induction l generalizing xs i with
 |nil=>cases q;cases i<;>rfl
 |cons w l ih=>obtain⟨y,t,rfl,h1,h2⟩:=q;cases i with
  |zero=>exact⟨x,t,rfl,h,h2⟩
  |succ i=>exact⟨y,t.set i x,rfl,h1,ih h2 i⟩
theorem RVs.one{v:SV}{x:AV}(h:RV X v x):RVs X [v] [x]:=⟨x,[],rfl,h,rfl⟩
theorem RV.one{v:SV}{x:AV}(h:RV X v x)(ho:v.one=true):x.one=true:=by
 cases v with
 |a w=>cases(show x=w from h);exact ho
 |u8 b=>cases(show x=_ from h);rfl
 |ptr=>obtain⟨m,_,rfl⟩:=h;rfl
 |zi2=>obtain⟨m,off,ver,lim,cs,rfl,_⟩:=h;rfl
 |isl u l=>rcases h with⟨_,rfl⟩|⟨m,off,ver,c',cs,rfl,_⟩<;>rfl
 |cl u l=>rcases h.1 with⟨_,rfl⟩|⟨m,off,ver,c',cs,rfl,_⟩<;>rfl
 |nsl u l=>obtain⟨m,off,ver,c',cs,rfl,_⟩:=h;rfl
 |lsl n=>rcases h with⟨_,rfl⟩|⟨m,off,sz,ver,c,rfl⟩<;>rfl
 |csl=>obtain⟨m,_,rfl⟩:=h;rfl
 |map=>obtain⟨m,_,rfl⟩:=h;rfl
 |zxP=>obtain⟨m,es,rfl,_⟩:=h;rfl
 |fn=>obtain⟨a,b,rfl,_⟩:=h;rfl
 |ifc=>obtain⟨a,rfl,_⟩:=h;rfl
 |zjA=>cases(show x=_ from h);rfl
 |yld=>obtain⟨m,_,rfl⟩:=h;rfl
 |agg=>cases ho
 |tup=>cases ho
 |top=>cases ho
 |zks=>exact h.1
 |gs=>exact h.1
 |zpK=>exact h.1
 |zyO=>exact h.1
 |sl=>exact h.1
theorem RV.cells{v:SV}{x:AV}(h:RV X v x)(ho:v.one=true\/∃ l,v=.agg l):RVs X v.cells x.cells:=by
 rcases ho with ho|⟨l,rfl⟩
 ·have h1:=h.one ho
  have e1:v.cells=[v]:=by cases v<;>first|rfl|cases ho
  have e2:x.cells=[x]:=by cases x<;>first|rfl|cases h1
  rw[e1,e2];exact .one h
 ·obtain⟨l',rfl,h2⟩:=h;exact h2
end
def take(u:U)(v:SV)(h:SH):Option (List (El u)×SH):=match v with
 |.a .qC=>some ([],h)
 |.isl u' l=>(zbr u' u l).map (·,h)
 |.gs loc n=>match h[loc]? with
  |some (.seq u' l m md)=>match yo m n with
   |true=>(zbr u' u l).map (·,h.set loc (.seq u' l m 2))
   |false=>none
  |_=>none
 |.sl loc n off len false=>match h[loc]? with
  |some (.seq u' l m md)=>match yo m n with
   |true=>(zbr u' u (slice l off (off+len))).map (·,h.set loc (.seq u' l m 2))
   |false=>none
  |_=>none
 |_=>none
def dec:(u:U)->List SV->SH->Option (El u×List SV×SH)
 |.bool,.a (.bool b)::r,h=>some (b,r,h)
 |.int k,.a (.int k' n)::r,h=>if k=k' then some (n,r,h) else none
 |.u8,.u8 b::r,h=>some (b,r,h)
 |.str,.a (.str l)::r,h=>some (l,r,h)
 |.sl u,v::r,h=>match take u v h with
  |some (l,h')=>some (l,r,h')
  |none=>none
 |.pair u v,r,h=>match dec u r h with
  |some (x,r1,h1)=>match dec v r1 h1 with
   |some (y,r2,h2)=>some ((x,y),r2,h2)
   |none=>none
  |none=>none
 |.unit,r,h=>some ((),r,h)
 |_,_,_=>none
def zxO(u:U):Nat->List SV->SH->Option (List (El u)×SH)
 |0,[],h=>some ([],h)
 |k+1,r,h=>match dec u r h with
  |some (x,r1,h1)=>match zxO u k r1 h1 with
   |some (l,h2)=>some (x::l,h2)
   |none=>none
  |none=>none
 |_,_,_=>none
def za2(f:TypeId->Option U):List Field->Option U
 | []=>some .unit
 | [x]=>match x.name == "_" with
  |true=>none
  |false=>f x.type
 |x::l=>match x.name == "_",f x.type,za2 f l with
  |false,some u,some v=>some (.pair u v)
  |_,_,_=>none
def uOf(P:Program):Nat->TypeId->Option U
 |0,_=>none
 |d+1,t=>match P.underlying t with
  |some .bool=>some .bool
  |some (.int .u8)=>some .u8
  |some (.int k)=>some (.int k)
  |some .string=>some .str
  |some (.slice e)=>(uOf P d e).map .sl
  |some (.struct fs)=>za2 (uOf P d) fs.toList
  |_=>none
def ofA:AV->Option SV
 |.int .u8 n=>if 0<=n/\n<256 then some (.u8 (UInt8.ofNat n.toNat)) else none
 |.int k n=>some (.a (.int k n))
 |.bool b=>some (.a (.bool b))
 |.str l=>some (.a (.str l))
 |.zhy=>some (.a .zhy)
 |.qC=>some (.a .qC)
 |.zhx=>some (.a .zhx)
 |.zlr=>some (.a .zlr)
 |.zer=>some (.a .zer)
 |.opq=>some (.a .opq)
 |.fn f [] []=>some (.fn f [] [])
 |.tup []=>some (.tup [])
 |_=>none
def zvQ:List AV->Option (List SV)
 | []=>some []
 |x::l=>match ofA x,zvQ l with
  |some v,some vs=>some (v::vs)
  |_,_=>none
def zAi:AV->Option SV
 |.agg l=>(zvQ l).map .agg
 |.ifc t (.agg l)=>(zvQ l).map fun x=>.ifc t (.agg x)
 |.ifc t v=>(ofA v).map (.ifc t)
 |v=>ofA v
def toA:SV->Option AV
 |.a v=>some v
 |.u8 b=>some (.int .u8 (b.toNat:Int))
 |_=>none
def zz2:List SV->Option (List AV)
 | []=>some []
 |x::l=>match toA x,zz2 l with
  |some v,some vs=>some (v::vs)
  |_,_=>none
def zAs:SV->Option AV
 |.agg l=>(zz2 l).map .agg
 |v=>toA v
section
variable {X:Gst}
theorem zfX{x:AV}{v:SV}(h:ofA x=some v):RV X v x:=by
 unfold ofA at h
 split at h
 ·split at h
  ·cases h
   rename_i n hn
   show _=_
   congr 1
   rw[UInt8.toNat_ofNat_of_lt' (by simp;omega)]
   omega
  ·cases h
 all_goals (first|(cases h;rfl)|(cases h;exact⟨_,_,rfl,rfl,rfl⟩)|(cases h;exact⟨_,rfl,rfl⟩)|cases h)
theorem zgE{l:List AV}{vs:List SV}(h:zvQ l=some vs):RVs X vs l:=by
 induction l generalizing vs with
 |nil=>cases h;rfl
 |cons x l ih=>
  unfold zvQ at h
  split at h
  ·cases h;exact⟨x,l,rfl,zfX (by assumption),ih (by assumption)⟩
  ·cases h
theorem zjN{x:AV}{v:SV}(h:zAi x=some v):RV X v x:=by
 unfold zAi at h
 split at h
 ·cases e:zvQ _ with
  |none=>rw[e] at h;cases h
  |some vs=>rw[e] at h;cases h;exact⟨_,rfl,zgE e⟩
 ·cases e:zvQ _ with
  |none=>rw[e] at h;cases h
  |some vs=>rw[e] at h;cases h;exact⟨_,rfl,_,rfl,zgE e⟩
 ·cases e:ofA _ with
  |none=>rw[e] at h;cases h
  |some vs=>rw[e] at h;cases h;exact⟨_,rfl,zfX e⟩
 ·exact zfX h
theorem zmZ{v:SV}{x w:AV}(h:toA v=some w)(q:RV X v x):x=w:=by
 unfold toA at h
 split at h
 ·cases h;exact q
 ·cases h;exact q
 ·cases h
theorem zqu{vs:List SV}{xs ws:List AV}(h:zz2 vs=some ws)(q:RVs X vs xs):xs=ws:=by
 induction vs generalizing xs ws with
 |nil=>cases h;exact q
 |cons v vs ih=>
  obtain⟨x,t,rfl,q1,q2⟩:=q
  unfold zz2 at h
  split at h
  ·cases h;rw[zmZ (by assumption) q1,ih (by assumption) q2]
  ·cases h
theorem zj7{v:SV}{x w:AV}(h:zAs v=some w)(q:RV X v x):x=w:=by
 unfold zAs at h
 split at h
 ·obtain⟨l',rfl,q⟩:=q
  cases e:zz2 _ with
  |none=>rw[e] at h;cases h
  |some ws=>rw[e] at h;cases h;rw[zqu e q]
 ·exact zmZ h q
theorem zak:∀ {u:U} {x:El u} {cs:List AV},RE X.h X.Φ u x cs->RVs X (enc u x) cs
 |.bool,_,_,q=>⟨_,_,q,rfl,rfl⟩
 |.int _,_,_,q=>⟨_,_,q,rfl,rfl⟩
 |.u8,_,_,q=>⟨_,_,q,rfl,rfl⟩
 |.str,_,_,q=>⟨_,_,q,rfl,rfl⟩
 |.sl u,l,cs,q=>let⟨x,e,h⟩:=zww.1 q;⟨x,[],e,h,rfl⟩
 |.pair _ _,_,_,⟨c1,c2,e,q1,q2⟩=>e ▸ (zak q1).append (zak q2)
 |.unit,_,_,q=>q
theorem RE.length{h:zg}{Φ:Nat->Prop}:∀ {u:U} {x:El u} {cs:List AV},RE h Φ u x cs->cs.length=u.sz
 |.bool,_,_,q=>by cases(show _=_ from q);rfl
 |.int _,_,_,q=>by cases(show _=_ from q);rfl
 |.u8,_,_,q=>by cases(show _=_ from q);rfl
 |.str,_,_,q=>by cases(show _=_ from q);rfl
 |.sl _,_,_,⟨x,e,_⟩=>by rw[e];rfl
 |.pair _ _,_,_,⟨c1,c2,e,q1,q2⟩=>by rw[e,yu,q1.length,q2.length];rfl
 |.unit,_,_,q=>by cases(show _=_ from q);rfl
theorem RE.one{h:zg}{Φ:Nat->Prop}:∀ {u:U} {x:El u} {cs:List AV},RE h Φ u x cs->cs.all AV.one=true
 |.bool,_,_,q=>by cases(show _=_ from q);rfl
 |.int _,_,_,q=>by cases(show _=_ from q);rfl
 |.u8,_,_,q=>by cases(show _=_ from q);rfl
 |.str,_,_,q=>by cases(show _=_ from q);rfl
 |.sl _,_,_,⟨x,e,q⟩=>by rw[e];rcases q with⟨_,rfl⟩|⟨m,off,ver,c',cs,rfl,_⟩<;>rfl
 |.pair _ _,_,_,⟨c1,c2,e,q1,q2⟩=>by rw[e,vZ,q1.one,q2.one];rfl
 |.unit,_,_,q=>by cases(show _=_ from q);rfl
end
def SB.md:SB->Nat
 |.cells _ m _=>m
 |.seq _ _ _ m=>m
 |.map _ _ m=>m
 |.kv _ _ _ m=>m
 |.loop _ _ m=>m
 |.gone=>1
def mkS(n:Nat):Option TypeId:=match ym n 4294967296 with
 |true=>match n/65536 with
  |0=>none
  |k+1=>some k
 |false=>none
def mkB:Option TypeId->Option TypeId->Bool
 |none,_=>true
 |some a,some b=>yo a b
 |_,_=>false
theorem zrV{a b:Option TypeId}(h:mkB a b=true)(t:Option TypeId):∃ t',b.or t=a.or t':=by
 cases a with
 |none=>exact⟨b.or t,rfl⟩
 |some x=>cases b with
  |none=>cases h
  |some y=>cases yK h;exact⟨none,rfl⟩
theorem zpc{n:Nat}(h:ym n 65536=true):mkS n=none:=by
 have h1:n/65536=0:=Nat.div_eq_of_lt (by simpa [vJ] using h)
 unfold mkS;rw[h1];cases ym n 4294967296<;>rfl
def mk0(u:U)(e:TypeId):Nat:=match u with
 |.u8=>match ym e 65535 with
  |true=>(e+1)*65536
  |false=>0
 |_=>0
theorem zy6(u:U)(e:TypeId):(mkS (mk0 u e)).or (some e)=some e:=by
 have z:(mkS 0).or (some e)=some e:=by rw[zpc rfl];rfl
 cases u<;>first|exact z|skip
 unfold mk0
 simp only
 split
 ·rename_i h
  have h2:e<65535:=by simpa [vJ] using h
  have h1:(e+1)*65536/65536=e+1:=Nat.mul_div_cancel _ (by decide)
  unfold mkS;rw[h1];cases ym ((e+1)*65536) 4294967296<;>rfl
 ·exact z
def mkA(n:Nat)(e:TypeId):Bool:=mkB (mkS (n+1)) (some e)&&mkB (mkS (n+1)) (mkS n)
theorem zy7{n:Nat}{e:TypeId}(h:mkA n e=true)(t:Option TypeId):∃ t',(if(mkS n).or t=some e then(mkS n).or t else none)=(mkS (n+1)).or t':=by
 unfold mkA at h
 rw[ye] at h
 cases h1:mkS (n+1) with
 |none=>exact⟨_,rfl⟩
 |some a=>
  rw[h1] at h
  obtain rfl:=yK (show yo a e=true from h.1)
  cases h2:mkS n with
  |none=>rw[h2] at h;cases h.2
  |some b=>
   rw[h2] at h
   obtain rfl:=yK (show yo a b=true from h.2)
   exact⟨none,by simp⟩
theorem zw8{n:Nat}{e:TypeId}(h:mkA n e=true):(mkS (n+1)).or (some e)=some e:=by
 unfold mkA at h
 rw[ye] at h
 cases h1:mkS (n+1) with
 |none=>rfl
 |some a=>rw[h1] at h;cases yK (show yo a e=true from h.1);rfl
class kF where
 at_:Nat->Option (Array Tmp×Code×Code)
variable [kF]
def RB(X:Gst):SB->Option (Nat×Nat)->Prop
 |.cells l _ mk,o=>∃ m l' tt,o=some (m,0)/\X.h[m]?=some (.row l' 0 0 0 false (mk.or tt))/\RVs X l l'
 |.seq u l k md,none=>l=[]
 |.seq u l k md,some (m,ver)=>∃ cells minv tt,X.h[m]?=some (.row cells ver minv 0 false ((mkS k).or tt))/\minv<=ver/\RCs X.h X.Φ u l cells/\(md=2->X.Φ m)
 |.map ks vs _,o=>∃ m es,o=some (m,0)/\X.h[m]?=some (.map es)/\RVs X ks (es.map (·.1))/\RVs X vs (es.map (·.2))
 |.kv u v l _,o=>∃ m es,o=some (m,0)/\X.h[m]?=some (.map es)/\RVs X (kvK u v l) (es.map (·.1))/\RVs X (kvV u v l) (es.map (·.2))
 |.loop env id _,o=>∃ m env' ps asg body,o=some (m,0)/\kF.at_ id=some (ps,asg,body)/\X.h[m]?=some (.loop env' ps asg body .ready none)/\RVs X env env'.toL
 |.gone,_=>True
structure RH(X:Gst):Prop where
 len:X.σ.length=X.sh.length
 inj:∀ (i j m v v':Nat),X.σ[i]?=some (some (m,v))->X.σ[j]?=some (some (m,v'))->i=j
 lt:∀ (i m v:Nat),X.σ[i]?=some (some (m,v))->m<X.h.length
 Φlt:∀ m,X.Φ m->m<X.h.length
 blk:∀ (i:Nat) (b:SB) (o:Option (Nat×Nat)),X.sh[i]?=some b->X.σ[i]?=some o->RB X b o
 own:∀ (i m v:Nat) (b:SB),X.sh[i]?=some b->X.σ[i]?=some (some (m,v))->X.Φ m->b.md=2\/b=.gone
structure Fm(X Y:Gst):Prop where
 len:X.h.length<=Y.h.length
 h:∀ m,m<X.h.length->(∀ (i v:Nat) (b:SB),X.sh[i]?=some b->X.σ[i]?=some (some (m,v))->b.md≠0)->Y.h[m]?=X.h[m]?
 md:∀ (i:Nat) (b:SB),X.sh[i]?=some b->b.md≠0->∃ b',Y.sh[i]?=some b'/\b'.md≠0
 new:∀ (i m v:Nat),Y.σ[i]?=some (some (m,v))->m<X.h.length->∃ v',X.σ[i]?=some (some (m,v'))
 gone:∀ (i:Nat),X.sh[i]?=some .gone->Y.sh[i]?=some .gone/\Y.σ[i]?=X.σ[i]?
 phi:∀ m,m<X.h.length->Y.Φ m->X.Φ m\/∃ (i v:Nat) (b:SB),X.sh[i]?=some b/\X.σ[i]?=some (some (m,v))/\b≠.gone
structure Stp(X Y:Gst):Prop where
 le:X.le Y
 hr:RH Y
 fm:Fm X Y
theorem Fm.trans{a b c:Gst}(ha:a.le b)(p:Fm a b)(q:Fm b c)(hl:a.σ.length=a.sh.length):Fm a c:=by
 refine⟨vD p.len q.len,fun m hm hx=>?_,fun i b hb hm=>?_,fun i m v h hm=>?_,fun i h=>⟨(q.gone i (p.gone i h).1).1,(q.gone i (p.gone i h).1).2.trans (p.gone i h).2⟩,fun m hm hΦ=>?_⟩
 ·rw[<- p.h m hm hx]
  refine q.h m (yF hm p.len) fun i v b' hb' hs=>?_
  obtain⟨v',hv'⟩:=p.new i m v hs hm
  have hi:i<a.sh.length:=by rw[<- hl];exact(yc.1 hv').1
  have hb0:=hx i v' a.sh[i] (yf hi) hv'
  obtain⟨b2,h1,h2⟩:=p.md i _ (yf hi) hb0
  rw[hb'] at h1;cases h1;exact h2
 ·obtain⟨b2,h1,h2⟩:=p.md i b hb hm
  exact q.md i b2 h1 h2
 ·obtain⟨v',hv'⟩:=q.new i m v h (yF hm p.len)
  exact p.new i m v' hv' hm
 ·rcases q.phi m (yF hm p.len) hΦ with h|⟨i,v,b',h1,h2,h3⟩
  ·exact p.phi m hm h
  ·obtain⟨v',hv'⟩:=p.new i m v h2 hm
   have hi:i<a.sh.length:=by rw[<- hl];exact(yc.1 hv').1
   refine .inr ⟨i,v',a.sh[i],yf hi,hv',fun e=>?_⟩
   have:=(p.gone i (by rw[yf hi,e])).1
   rw[h1] at this;cases this;exact h3 rfl
theorem Stp.trans{a b c:Gst}(p:Stp a b)(q:Stp b c):Stp a c:=⟨Gst.le_trans p.le q.le,q.hr,p.fm.trans p.le q.fm p.le.shl⟩
theorem Stp.refl{a:Gst}(h:RH a):Stp a a:=⟨Gst.le_refl h.len,h,yb _,fun _ _ _=>rfl,fun i b hb hm=>⟨b,hb,hm⟩,fun i m v h _=>⟨v,h⟩,fun _ h=>⟨h,rfl⟩,fun _ _ h=>.inl h⟩
theorem RB.le{X Y:Gst}(hl:X.le Y){b:SB}{o:Option (Nat×Nat)}(h:RB X b o)(hh:∀ m v,o=some (m,v)->Y.h[m]?=X.h[m]?):RB Y b o:=by
 cases b with
 |cells l md mk=>obtain⟨m,l',tt,rfl,h1,h2⟩:=h;exact⟨m,l',tt,rfl,(hh _ _ rfl).trans h1,h2.le hl⟩
 |seq u l k md=>
  cases o with
  |none=>exact h
  |some p=>obtain⟨m,ver⟩:=p;obtain⟨cells,minv,tt,h1,h2,h3,h4⟩:=h;exact⟨cells,minv,tt,(hh _ _ rfl).trans h1,h2,h3.le hl.h hl.Φ,fun e=>hl.Φ _ (h4 e)⟩
 |map ks vs md=>obtain⟨m,es,rfl,h1,h2,h3⟩:=h;exact⟨m,es,rfl,(hh _ _ rfl).trans h1,h2.le hl,h3.le hl⟩
 |kv u v l md=>obtain⟨m,es,rfl,h1,h2,h3⟩:=h;exact⟨m,es,rfl,(hh _ _ rfl).trans h1,h2.le hl,h3.le hl⟩
 |loop env id md=>obtain⟨m,env',ps,asg,body,rfl,h1,h2,h3⟩:=h;exact⟨m,env',ps,asg,body,rfl,h1,(hh _ _ rfl).trans h2,h3.le hl⟩
 |gone=>trivial
theorem qq{α:Type}{l:List α}{x y:α}{j:Nat}(h:(l++[x])[j]?=some y):l[j]?=some y\/(j=l.length/\x=y):=by
 rw[List.getElem?_append] at h
 split at h
 ·exact .inl h
 ·rename_i hl
  cases he:j-l.length with
  |zero=>rw[he] at h;simp at h;exact .inr ⟨by omega,h⟩
  |succ n=>rw[he] at h;simp at h
theorem qk{α:Type}{l:List α}{x y:α}{i j:Nat}(h:(l.set i x)[j]?=some y):(j=i/\x=y)\/(j≠i/\l[j]?=some y):=by
 by_cases e:j=i
 ·subst e
  have hl:=(yc.1 h).1
  rw[yN] at hl
  rw[yr hl] at h
  exact .inl ⟨rfl,yY h⟩
 ·rw[yp (Ne.symm e)] at h;exact .inr ⟨e,h⟩
theorem Stp.push{X:Gst}(hr:RH X){b:SB}{blk:Blk}(hmd:b.md≠2)
  (hB:X.le ⟨X.h++[blk],X.Φ,X.σ++[some (X.h.length,0)],X.sh++[b]⟩->RB ⟨X.h++[blk],X.Φ,X.σ++[some (X.h.length,0)],X.sh++[b]⟩ b (some (X.h.length,0))):
  Stp X ⟨X.h++[blk],X.Φ,X.σ++[some (X.h.length,0)],X.sh++[b]⟩:=by
 have hh:∀ m,m<X.h.length->(X.h++[blk])[m]?=X.h[m]?:=fun m hm=>Arr.j7 hm
 have hσ:∀ (i:Nat),i<X.σ.length->(X.σ++[some (X.h.length,0)])[i]?=X.σ[i]?:=fun i hi=>yq hi
 have hle:X.le ⟨X.h++[blk],X.Φ,X.σ++[some (X.h.length,0)],X.sh++[b]⟩:=by
  refine⟨fun m hm=>hh m (hr.Φlt m hm),fun _ h=>h,by simp,fun loc m v h=>⟨v,?_⟩,fun loc u l k md hl hs=>?_,hr.len⟩
  ·rw[hσ _ (yc.1 h).1];exact h
  ·dsimp only at hs
   rw[yq hl] at hs
   exact⟨l,k,md,hs,yb _,fun _=>⟨rfl,hσ _ (by rw[hr.len];exact hl)⟩⟩
 refine⟨hle,⟨by simp [hr.len],fun i j m v v' h1 h2=>?_,fun i m v h1=>?_,fun m hm=>?_,fun i b' o h1 h2=>?_,fun i m v b' h1 h2 h3=>?_⟩,⟨?_,fun m hm _=>hh m hm,fun i b' hb hm=>⟨b',?_,hm⟩,fun i m v h1 hm=>?_,fun i h=>⟨(yq (yc.1 h).1).trans h,hσ _ (by rw[hr.len];exact(yc.1 h).1)⟩,fun _ _ h=>.inl h⟩⟩
 ·rcases qq h1 with q1|⟨e1,q1⟩<;>rcases qq h2 with q2|⟨e2,q2⟩
  ·exact hr.inj _ _ _ _ _ q1 q2
  ·cases q2;exact absurd (hr.lt _ _ _ q1) (vz _)
  ·cases q1;exact absurd (hr.lt _ _ _ q2) (vz _)
  ·exact e1.trans e2.symm
 ·show m<(X.h++[blk]).length
  rw[Arr.ql]
  rcases qq h1 with h1|⟨_,h1⟩
  ·have:=hr.lt _ _ _ h1;simp;omega
  ·cases h1;simp
 ·show m<(X.h++[blk]).length
  have:=hr.Φlt m hm;rw[Arr.ql];simp;omega
 ·rcases qq h1 with h1|⟨rfl,rfl⟩
  ·have hi:=(yc.1 h1).1
   dsimp only at h2
   rw[hσ _ (by rw[hr.len];exact hi)] at h2
   exact(hr.blk i b' o h1 h2).le hle fun m v e=>hh m (hr.lt i m v (e ▸ h2))
  ·dsimp only at h2
   rw[<- hr.len,yi (yb _)] at h2
   simp at h2;subst h2;exact hB hle
 ·rcases qq h1 with h1|⟨rfl,rfl⟩
  ·have hi:=(yc.1 h1).1
   dsimp only at h2
   rw[hσ _ (by rw[hr.len];exact hi)] at h2
   exact hr.own i m v b' h1 h2 h3
  ·dsimp only at h2
   rw[<- hr.len,yi (yb _)] at h2
   simp at h2
   obtain⟨rfl,rfl⟩:=h2
   exact absurd (hr.Φlt _ h3) (vz _)
 ·show _<=(X.h++[blk]).length
  rw[Arr.ql];omega
 ·show(X.sh++[b])[i]?=_
  rw[yq (yc.1 hb).1];exact hb
 ·rcases qq h1 with q1|⟨_,q1⟩
  ·exact⟨v,q1⟩
  ·cases q1;exact absurd hm (vz _)
theorem Stp.zze{X:Gst}(hr:RH X){b:SB}(hmd:b.md≠2)(hB:∀ Y,RB Y b none):Stp X ⟨X.h,X.Φ,X.σ++[none],X.sh++[b]⟩:=by
 have hσ:∀ (i:Nat),i<X.σ.length->(X.σ++[none])[i]?=X.σ[i]?:=fun i hi=>yq hi
 have hle:X.le ⟨X.h,X.Φ,X.σ++[none],X.sh++[b]⟩:=by
  refine⟨fun m hm=>rfl,fun _ h=>h,by simp,fun loc m v h=>⟨v,?_⟩,fun loc u l k md hl hs=>?_,hr.len⟩
  ·rw[hσ _ (yc.1 h).1];exact h
  ·dsimp only at hs
   rw[yq hl] at hs
   exact⟨l,k,md,hs,yb _,fun _=>⟨rfl,hσ _ (by rw[hr.len];exact hl)⟩⟩
 refine⟨hle,⟨by simp [hr.len],fun i j m v v' h1 h2=>?_,fun i m v h1=>?_,hr.Φlt,fun i b' o h1 h2=>?_,fun i m v b' h1 h2 h3=>?_⟩,⟨yb _,fun m hm _=>rfl,fun i b' hb hm=>⟨b',?_,hm⟩,fun i m v h1 hm=>?_,fun i h=>⟨(yq (yc.1 h).1).trans h,hσ _ (by rw[hr.len];exact(yc.1 h).1)⟩,fun _ _ h=>.inl h⟩⟩
 ·rcases qq h1 with q1|⟨e1,q1⟩<;>rcases qq h2 with q2|⟨e2,q2⟩
  ·exact hr.inj _ _ _ _ _ q1 q2
  ·cases q2
  ·cases q1
  ·exact e1.trans e2.symm
 ·rcases qq h1 with h1|⟨_,h1⟩
  ·exact hr.lt _ _ _ h1
  ·cases h1
 ·rcases qq h1 with h1|⟨rfl,rfl⟩
  ·have hi:=(yc.1 h1).1
   dsimp only at h2
   rw[hσ _ (by rw[hr.len];exact hi)] at h2
   exact(hr.blk i b' o h1 h2).le hle fun m v e=>rfl
  ·dsimp only at h2
   rw[<- hr.len,yi (yb _)] at h2
   simp at h2;subst h2;exact hB _
 ·rcases qq h1 with h1|⟨rfl,rfl⟩
  ·have hi:=(yc.1 h1).1
   dsimp only at h2
   rw[hσ _ (by rw[hr.len];exact hi)] at h2
   exact hr.own i m v b' h1 h2 h3
  ·dsimp only at h2
   rw[<- hr.len,yi (yb _)] at h2
   simp at h2
 ·show(X.sh++[b])[i]?=_
  rw[yq (yc.1 hb).1];exact hb
 ·rcases qq h1 with q1|⟨_,q1⟩
  ·exact⟨v,q1⟩
  ·cases q1
theorem Stp.turn{X Y:Gst}(hr:RH X){i:Nat}{b b':SB}{o o':Option (Nat×Nat)}(hb:X.sh[i]?=some b)(ho:X.σ[i]?=some o)(hng:b≠.gone)
  (hh:∀ m,m<X.h.length->(∀ v,o≠some (m,v))->Y.h[m]?=X.h[m]?) (hown:∀ m v,o=some (m,v)->Y.h[m]?=X.h[m]? \/ b.md=0) (hlen:X.h.length<=Y.h.length)
  (hΦ:∀ m,Y.Φ m↔X.Φ m\/(b'.md=2/\∃ v,o'=some (m,v))) (hσ:Y.σ=X.σ.set i o') (hs:Y.sh=X.sh.set i b')
  (ho':∀ m v,o'=some (m,v)->m<Y.h.length/\((∃ v0,o=some (m,v0))\/(o=none/\X.h.length<=m))) (ho1:∀ m v,o=some (m,v)->∃ v',o'=some (m,v'))
  (hseq:∀ u l k md,b'=.seq u l k md->∃ l' k' md',b=.seq u l' k' md'/\k'<=k/\(k'=k->l'.length=l.length/\o'=o))
  (hm0:b.md≠0->b'.md≠0) (hm2:b.md=2\/b=.gone->b'.md=2\/b'=.gone) (hB:X.le Y->RB Y b' o'):Stp X Y:=by
 have hi:=(yc.1 hb).1
 have hΦh:∀ m,X.Φ m->Y.h[m]?=X.h[m]?:=fun m hm=>by
  by_cases e:∃ v,o=some (m,v)
  ·obtain⟨v,e⟩:=e
   rcases hown m v e with h|h
   ·exact h
   ·rcases hr.own i m v b hb (e ▸ ho) hm with h2|rfl
    ·omega
    ·cases h
  ·exact hh m (hr.Φlt m hm) fun v h=>e ⟨v,h⟩
 have hle:X.le Y:=by
  refine⟨hΦh,fun m hm=>(hΦ m).2 (.inl hm),by rw[hσ];simp,fun loc m v h=>?_,fun loc u l k md hl h=>?_,hr.len⟩
  ·rw[hσ]
   by_cases e:loc=i
   ·subst e
    rw[ho] at h
    obtain⟨v',e2⟩:=ho1 m v (yY h)
    exact⟨v',by rw[yr (by rw[hr.len];exact hi),e2]⟩
   ·exact⟨v,by rw[yp (Ne.symm e)];exact h⟩
  ·rw[hs] at h
   rcases qk h with⟨rfl,e⟩|⟨e,h⟩
   ·obtain⟨l',k',md',h1,h2,h3⟩:=hseq u l k md e
    exact⟨l',k',md',by rw[hb,h1],h2,fun e=>⟨(h3 e).1,by rw[hσ,yr (by rw[hr.len];exact hi),ho,(h3 e).2]⟩⟩
   ·exact⟨l,k,md,h,yb _,fun _=>⟨rfl,by rw[hσ,yp (Ne.symm e)]⟩⟩
 refine⟨hle,⟨by rw[hσ,hs];simp [hr.len],fun i1 j m v v' h1 h2=>?_,fun j m v h1=>?_,fun m hm=>?_,fun j b2 o2 h1 h2=>?_,fun j m v b2 h1 h2 h3=>?_⟩,⟨hlen,fun m hm hx=>?_,fun j b2 hb2 hm=>?_,fun j m v h1 hm=>?_,fun j h=>?_,fun m hm h=>?_⟩⟩
 ·have key:∀ (j:Nat) m v,Y.σ[j]?=some (some (m,v))->(∃ v',X.σ[j]?=some (some (m,v')))\/(j=i/\X.h.length<=m):=fun j m v h=>by
   rw[hσ] at h
   rcases qk h with⟨rfl,e⟩|⟨e,h⟩
   ·rcases(ho' m v e).2 with⟨v0,e2⟩|⟨_,e2⟩
    ·exact .inl ⟨v0,by rw[ho,e2]⟩
    ·exact .inr ⟨rfl,e2⟩
   ·exact .inl ⟨v,h⟩
  rcases key _ _ _ h1 with⟨v1,k1⟩|⟨rfl,k1⟩<;>rcases key _ _ _ h2 with⟨v2,k2⟩|⟨rfl,k2⟩
  ·exact hr.inj _ _ _ _ _ k1 k2
  ·have:=hr.lt _ _ _ k1;omega
  ·have:=hr.lt _ _ _ k2;omega
  ·rfl
 ·rw[hσ] at h1
  rcases qk h1 with⟨rfl,e⟩|⟨e,h⟩
  ·exact(ho' m v e).1
  ·exact yF (hr.lt _ _ _ h) hlen
 ·rcases(hΦ m).1 hm with h|⟨_,v,e⟩
  ·exact yF (hr.Φlt m h) hlen
  ·exact(ho' m v e).1
 ·rw[hs] at h1
  rw[hσ] at h2
  rcases qk h1 with⟨rfl,rfl⟩|⟨e,h1⟩
  ·rw[yr (by rw[hr.len];exact hi)] at h2
   cases h2;exact hB hle
  ·rw[yp (Ne.symm e)] at h2
   refine(hr.blk j b2 o2 h1 h2).le hle fun m v e2=>?_
   subst e2
   exact hh m (hr.lt _ _ _ h2) fun v' e3=>e (hr.inj _ _ _ _ _ h2 (e3 ▸ ho))
 ·rw[hs] at h1
  rw[hσ] at h2
  rcases qk h1 with⟨rfl,rfl⟩|⟨e,h1⟩
  ·rw[yr (by rw[hr.len];exact hi)] at h2
   rcases(hΦ m).1 h3 with h|⟨h,_⟩
   ·rcases(ho' m v (yY h2)).2 with⟨v0,e2⟩|⟨_,e2⟩
    ·exact hm2 (hr.own j m v0 b hb (e2 ▸ ho) h)
    ·have:=hr.Φlt m h;omega
   ·exact .inl h
  ·rw[yp (Ne.symm e)] at h2
   rcases(hΦ m).1 h3 with h|⟨_,v',e2⟩
   ·exact hr.own j m v b2 h1 h2 h
   ·rcases(ho' m v' e2).2 with⟨v0,e3⟩|⟨_,e3⟩
    ·exact absurd (hr.inj _ _ _ _ _ h2 (e3 ▸ ho)) e
    ·have:=hr.lt _ _ _ h2;omega
 ·by_cases e:∃ v,o=some (m,v)
  ·obtain⟨v,e⟩:=e
   rcases hown m v e with h|h
   ·exact h
   ·exact absurd h (hx i v b hb (e ▸ ho))
  ·exact hh m hm fun v h=>e ⟨v,h⟩
 ·rw[hs]
  by_cases e:j=i
  ·subst e
   rw[hb] at hb2;cases hb2
   exact⟨b',yr hi,hm0 hm⟩
  ·exact⟨b2,by rw[yp (Ne.symm e)];exact hb2,hm⟩
 ·rw[hσ] at h1
  rcases qk h1 with⟨rfl,e⟩|⟨e,h⟩
  ·rcases(ho' m v e).2 with⟨v0,e2⟩|⟨_,e2⟩
   ·exact⟨v0,by rw[ho,e2]⟩
   ·omega
  ·exact⟨v,h⟩
 ·rw[hs,hσ]
  by_cases e:j=i
  ·subst e;rw[hb] at h;cases h;exact absurd rfl hng
  ·rw[yp (Ne.symm e),yp (Ne.symm e)];exact⟨h,rfl⟩
 ·rcases(hΦ m).1 h with h|⟨_,v,e⟩
  ·exact .inl h
  ·rcases(ho' m v e).2 with⟨v0,e2⟩|⟨_,e2⟩
   ·exact .inr ⟨i,v0,b,hb,e2 ▸ ho,hng⟩
   ·omega
structure Kp(X:Gst)(m:Nat):Prop where
 lt:m<X.h.length
 phi:¬ X.Φ m
 gone:∀ (i v:Nat) (b:SB),X.sh[i]?=some b->X.σ[i]?=some (some (m,v))->b=.gone
theorem Kp.step{X Y:Gst}(hl:X.σ.length=X.sh.length)(S:Stp X Y){m:Nat}(h:Kp X m):Kp Y m/\Y.h[m]?=X.h[m]?:=by
 refine⟨⟨yF h.lt S.fm.len,fun hΦ=>?_,fun i v b hb ho=>?_⟩,S.fm.h m h.lt fun i v b hb ho=>?_⟩
 ·rcases S.fm.phi m h.lt hΦ with q|⟨i,v,b,q1,q2,q3⟩
  ·exact h.phi q
  ·exact q3 (h.gone i v b q1 q2)
 ·obtain⟨v',q⟩:=S.fm.new i m v ho h.lt
  have hi:i<X.sh.length:=by rw[<- hl];exact(yc.1 q).1
  have:=h.gone i v' _ (yf hi) q
  have:=(S.fm.gone i (by rw[yf hi,this])).1
  rw[hb] at this;cases this;rfl
 ·rw[h.gone i v b hb ho];simp [SB.md]
theorem RH.swap{X:Gst}(hr:RH X){m:Nat}(h:Kp X m)(k:Blk):RH ⟨X.h.set m k,X.Φ,X.σ,X.sh⟩:=by
 have hne:∀ {m'},m'≠m->(X.h.set m k)[m']?=X.h[m']?:=fun e=>Arr.zY (Ne.symm e)
 have hle:X.le ⟨X.h.set m k,X.Φ,X.σ,X.sh⟩:=⟨fun m' hm=>hne fun e=>h.phi (e ▸ hm),fun _ h=>h,yb _,fun _ _ v h=>⟨v,h⟩,fun _ _ l k md _ h=>⟨l,k,md,h,yb _,fun _=>⟨rfl,rfl⟩⟩,hr.len⟩
 refine⟨hr.len,hr.inj,fun i m' v q=>?_,fun m' q=>?_,fun i b o hb ho=>?_,hr.own⟩
 ·show m'<(X.h.set m k).length;rw[Arr.length_set];exact hr.lt i m' v q
 ·show m'<(X.h.set m k).length;rw[Arr.length_set];exact hr.Φlt m' q
 ·by_cases e:b=.gone
  ·subst e;trivial
  ·exact(hr.blk i b o hb ho).le hle fun m' v e'=>hne fun e2=>e (h.gone i v b hb (by rw[show X.σ[i]?=some o from ho,e',e2]))
theorem Stp.swap{X Y:Gst}(hr:RH X)(S:Stp X Y){m:Nat}(h:Kp X m)(k:Blk):Stp ⟨X.h.set m k,X.Φ,X.σ,X.sh⟩ ⟨Y.h.set m k,Y.Φ,Y.σ,Y.sh⟩:=by
 obtain⟨hk,hm⟩:=h.step hr.len S
 have hs:∀ {m'},Y.h[m']?=X.h[m']? -> m'<X.h.length->(Y.h.set m k)[m']?=(X.h.set m k)[m']?:=fun {m'} q hlt=>by
  by_cases e:m'=m
  ·subst e;rw[Arr.qu hlt,Arr.qu (yF hlt S.fm.len)]
  ·rw[Arr.zY (Ne.symm e),Arr.zY (Ne.symm e)];exact q
 refine⟨⟨fun m' q=>hs (S.le.h m' q) (hr.Φlt m' q),S.le.Φ,S.le.len,S.le.at_,S.le.seq,S.le.shl⟩,S.hr.swap hk k,⟨?_,fun m' hlt hx=>?_,S.fm.md,fun i m' v q hlt=>?_,S.fm.gone,fun m' hlt q=>?_⟩⟩
 ·show(X.h.set m k).length<=(Y.h.set m k).length;rw[Arr.length_set,Arr.length_set];exact S.fm.len
 ·have hlt:m'<X.h.length:=by have q:m'<(X.h.set m k).length:=hlt;rwa [Arr.length_set] at q
  exact hs (S.fm.h m' hlt hx) hlt
 ·exact S.fm.new i m' v q (by have q:m'<(X.h.set m k).length:=hlt;rwa [Arr.length_set] at q)
 ·exact S.fm.phi m' (by have q:m'<(X.h.set m k).length:=hlt;rwa [Arr.length_set] at q) q
theorem Stp.zCC{X Y:Gst}(S:Stp X Y){m:Nat}(h0:X.h.length<=m)(h:Kp Y m)(k:Blk)(hΦ:∀ m,X.Φ m->m<X.h.length):Stp X ⟨Y.h.set m k,Y.Φ,Y.σ,Y.sh⟩/\Y.le ⟨Y.h.set m k,Y.Φ,Y.σ,Y.sh⟩:=by
 have hne:∀ {m'},m'<X.h.length->(Y.h.set m k)[m']?=Y.h[m']?:=fun q=>Arr.zY fun e=>by omega
 refine⟨⟨⟨fun m' q=>(hne (hΦ m' q)).trans (S.le.h m' q),S.le.Φ,S.le.len,S.le.at_,S.le.seq,S.le.shl⟩,S.hr.swap h k,⟨?_,fun m' hlt hx=>(hne hlt).trans (S.fm.h m' hlt hx),S.fm.md,S.fm.new,S.fm.gone,S.fm.phi⟩⟩,?_⟩
 ·show _<=(Y.h.set m k).length;rw[Arr.length_set];exact S.fm.len
 ·exact⟨fun m' hm=>Arr.zY fun e=>h.phi (e ▸ hm),fun _ h=>h,yb _,fun _ _ v h=>⟨v,h⟩,fun _ _ l k md _ h=>⟨l,k,md,h,yb _,fun _=>⟨rfl,rfl⟩⟩,S.hr.len⟩
theorem Stp.zCc{X:Gst}(hr:RH X){loc:Nat}{b:SB}(hb:X.sh[loc]?=some b)(hng:b≠.gone)(h0:b.md=0):Stp X ⟨X.h,X.Φ,X.σ,X.sh.set loc .gone⟩:=by
 have hi:loc<X.σ.length:=by rw[hr.len];exact(yc.1 hb).1
 have hσ:X.σ=X.σ.set loc X.σ[loc]:=by
  refine yV fun j=>?_
  rw[vk];split
  ·subst j;first|exact yf hi|(rw[if_pos hi];exact yf hi)
  ·rfl
 exact Stp.turn hr (b':=.gone) (o':=X.σ[loc]) hb (yf hi) hng (fun _ _ _=>rfl) (fun _ _ _=>.inl rfl) (yb _) (fun m=>⟨.inl,fun h=>h.elim id fun h=>by cases h.1⟩) hσ rfl
  (fun m v e=>⟨hr.lt loc m v (by rw[yf hi,e]),.inl ⟨v,e⟩⟩) (fun m v e=>⟨v,e⟩) (fun _ _ _ _ e=>by cases e) (fun h=>absurd h0 h) (fun _=>.inr rfl) fun _=>trivial
theorem Stp.again{X Y:Gst}(hr:RH X){loc m v:Nat}{b:SB}(hb:X.sh[loc]?=some b)(hσ:X.σ[loc]?=some (some (m,v)))(hng:b≠.gone)(h0:b.md=0)(hns:∀ u l k md,b≠.seq u l k md)
  (S:Stp ⟨X.h,X.Φ,X.σ,X.sh.set loc .gone⟩ Y) (hB:X.le ⟨Y.h,Y.Φ,Y.σ,Y.sh.set loc b⟩->RB ⟨Y.h,Y.Φ,Y.σ,Y.sh.set loc b⟩ b (some (m,v))):Stp X ⟨Y.h,Y.Φ,Y.σ,Y.sh.set loc b⟩:=by
 have hi:=(yc.1 hb).1
 obtain⟨g1,g2⟩:=S.fm.gone loc (yr hi)
 have hiY:=(yc.1 g1).1
 have hm:=hr.lt _ _ _ hσ
 have hΦX:¬ X.Φ m:=fun h=>(hr.own loc m v b hb hσ h).elim (fun e=>by omega) hng
 have hK:Kp ⟨X.h,X.Φ,X.σ,X.sh.set loc .gone⟩ m:=⟨hm,hΦX,fun i v' b' hb' ho=>by
  have e:=hr.inj _ _ _ _ _ ho hσ
  subst e
  have hb':(X.sh.set i .gone)[i]?=some b':=hb'
  rw[yr hi] at hb';cases hb';rfl⟩
 obtain⟨kY,hmY⟩:=hK.step (by show X.σ.length=(X.sh.set loc .gone).length;rw[yN];exact hr.len) S
 have hle:X.le ⟨Y.h,Y.Φ,Y.σ,Y.sh.set loc b⟩:=by
  refine⟨S.le.h,S.le.Φ,S.le.len,S.le.at_,fun loc' u l k md hl h=>?_,hr.len⟩
  rcases qk h with⟨rfl,e⟩|⟨hne,h⟩
  ·exact absurd e (hns _ _ _ _)
  ·obtain⟨l',k',md',h1,h2,h3⟩:=S.le.seq loc' u l k md (by show(X.sh.set loc .gone).length > loc';rw[yN];exact hl) h
   have h1:(X.sh.set loc .gone)[loc']?=some (.seq u l' k' md'):=h1
   rw[yp (Ne.symm hne)] at h1
   exact⟨l',k',md',h1,h2,h3⟩
 have hleY:∀ {b':SB} {o:Option (Nat×Nat)},RB Y b' o->RB ⟨Y.h,Y.Φ,Y.σ,Y.sh.set loc b⟩ b' o:=fun h=>by
  have hl2:Y.le ⟨Y.h,Y.Φ,Y.σ,Y.sh.set loc b⟩:=by
   refine⟨fun _ _=>rfl,fun _ h=>h,yb _,fun _ _ v h=>⟨v,h⟩,fun loc' u l k md hl h=>?_,S.hr.len⟩
   rcases qk h with⟨rfl,e⟩|⟨hne,h⟩
   ·exact absurd e (hns _ _ _ _)
   ·exact⟨l,k,md,h,yb _,fun _=>⟨rfl,rfl⟩⟩
  exact h.le hl2 fun _ _ _=>rfl
 refine⟨hle,⟨by show Y.σ.length=(Y.sh.set loc b).length;rw[yN];exact S.hr.len,S.hr.inj,S.hr.lt,S.hr.Φlt,fun i b' o h1 h2=>?_,fun i m' v' b' h1 h2 h3=>?_⟩,⟨S.fm.len,fun m' hlt hx=>?_,fun i b' h1 h2=>?_,S.fm.new,fun i h=>?_,fun m' hlt h=>?_⟩⟩
 ·rcases qk h1 with⟨rfl,rfl⟩|⟨hne,h1⟩
  ·have h2:Y.σ[i]?=some o:=h2
   rw[g2,hσ] at h2;cases h2
   exact hB hle
  ·exact hleY (S.hr.blk i b' o h1 h2)
 ·rcases qk h1 with⟨rfl,rfl⟩|⟨hne,h1⟩
  ·have h2:Y.σ[i]?=some (some (m',v')):=h2
   rw[g2,hσ] at h2;cases h2
   exact absurd h3 kY.phi
  ·exact S.hr.own i m' v' b' h1 h2 h3
 ·refine S.fm.h m' hlt fun i v' b' h1 h2=>?_
  rcases qk h1 with⟨rfl,rfl⟩|⟨hne,h1⟩
  ·simp [SB.md]
  ·exact hx i v' b' h1 h2
 ·have hne:i≠loc:=fun e=>by rw[e,hb] at h1;cases h1;exact h2 h0
  obtain⟨b2,q1,q2⟩:=S.fm.md i b' (by show(X.sh.set loc .gone)[i]?=_;rw[yp (Ne.symm hne)];exact h1) h2
  exact⟨b2,by show(Y.sh.set loc b)[i]?=_;rw[yp (Ne.symm hne)];exact q1,q2⟩
 ·have hne:i≠loc:=fun e=>by rw[e,hb] at h;cases h;exact hng rfl
  obtain⟨q1,q2⟩:=S.fm.gone i (by show(X.sh.set loc .gone)[i]?=_;rw[yp (Ne.symm hne)];exact h)
  exact⟨by show(Y.sh.set loc b)[i]?=_;rw[yp (Ne.symm hne)];exact q1,q2⟩
 ·rcases S.fm.phi m' hlt h with q|⟨i,v',b',q1,q2,q3⟩
  ·exact .inl q
  ·rcases qk q1 with⟨rfl,rfl⟩|⟨hne,q1⟩
   ·exact absurd rfl q3
   ·exact .inr ⟨i,v',b',q1,q2,q3⟩
end Go.Sx
namespace Go.Sx
open Go Go.Gx Go.Mx
variable [kF]
theorem jm{u v:U}{l:List (El u)}{l':List (El v)}(h:zbr u v l=some l'):∃ e:u=v,e ▸ l=l':=by
 unfold zbr at h
 split at h
 ·rename_i e;exact⟨e,yY h⟩
 ·cases h
theorem zwD{u v:U}{l:List (El u)}{α:Type}{f:List (El v)->α}{r:α}(h:(zbr u v l).map f=some r):∃ e:u=v,f (e ▸ l)=r:=by
 cases q:zbr u v l with
 |none=>rw[q] at h;cases h
 |some l'=>rw[q] at h;obtain⟨e,e2⟩:=jm q;cases h;exact⟨e,by rw[e2]⟩
theorem zct{α:Type}{l:List α}{a n:Nat}(h:a+n<=l.length):(slice l a (a+n)).length=n:=by
 unfold slice;rw[yx,yD];omega
theorem ztb{α:Type}{l:List α}{a n i:Nat}{e:α}(h:(slice l a (a+n))[i]?=some e):i<n/\l[a+i]?=some e:=by
 unfold slice at h
 rw[yR] at h
 split at h
 ·rw[yS] at h;exact⟨by omega,h⟩
 ·cases h
theorem jE(sz i:Nat)(cs:List AV):part sz cs i=(cs.drop (i*sz)).take sz:=rfl
theorem RCs.slice{h:zg}{Φ:Nat->Prop}{u:U}{l:List (El u)}{cs:List AV}(q:RCs h Φ u l cs){a n:Nat}(hl:a+n<=l.length):RCs h Φ u (slice l a (a+n)) ((cs.drop (a*u.sz)).take (n*u.sz)):=by
 have hm:a*u.sz+n*u.sz<=l.length*u.sz:=by rw[<- yT];exact yj _ hl
 refine⟨by rw[zct hl,yx,yD,q.1];omega,fun i e hi=>?_⟩
 obtain⟨h1,h2⟩:=ztb hi
 have:=q.2 (a+i) e h2
 rw[jE] at this |-
 have hi:i*u.sz+u.sz<=n*u.sz:=by rw[<- yv];exact yj _ h1
 rw[yH,yz,yI,yw (by omega),<- yT]
 exact this
theorem ziD{h:zg}{m ver minv frz:Nat}{cells:List AV}{ro:Bool}{tt:Option TypeId}(hb:h[m]?=some (.row cells ver minv frz ro tt))(hv:minv<=ver)(off n lim:Nat)(hl:off+n<=lim):rd h m off ver lim n=some ((cells.drop off).take n):=by
 unfold rd;rw[hb];simp only;rw[if_pos ⟨hv,hl⟩]
theorem zj{a b:Nat}(h:yo a b=true):a=b:=yK h
theorem Stp.freeze{X:Gst}(hr:RH X){loc:Nat}{u:U}{l:List (El u)}{k md:Nat}(hb:X.sh[loc]?=some (.seq u l k md)):∃ o Y,X.σ[loc]?=some o/\Stp X Y/\Y.h=X.h/\Y.sh=X.sh.set loc (.seq u l k 2)/\∀ m v,o=some (m,v)->Y.Φ m:=by
 have hi:=(yc.1 hb).1
 obtain⟨o,ho⟩:∃ o,X.σ[loc]?=some o:=⟨_,yf (by rw[hr.len];exact hi)⟩
 have hσ:X.σ=X.σ.set loc o:=by
  refine yV fun j=>?_
  rw[vk];split
  ·subst j;rw[if_pos (by rw[hr.len];exact hi)];exact ho
  ·rfl
 have hrb:=hr.blk _ _ _ hb ho
 refine⟨o,⟨X.h,fun m=>X.Φ m\/(2=2/\∃ v,o=some (m,v)),X.σ,X.sh.set loc (.seq u l k 2)⟩,ho,?_,rfl,rfl,fun m v e=>.inr ⟨rfl,v,e⟩⟩
 refine Stp.turn hr hb ho (by simp) (fun m _ _=>rfl) (fun m v _=>.inl rfl) (yb _) (fun m=>Iff.rfl) hσ rfl (fun m v e=>⟨hr.lt loc m v (e ▸ ho),.inl ⟨v,e⟩⟩) (fun m v e=>⟨v,e⟩)
  (fun u' l' k' md' e=>by cases e;exact⟨l,k,md,rfl,yb _,fun _=>⟨rfl,rfl⟩⟩) (fun _=>by simp [SB.md]) (fun _=>.inl rfl) fun hle=>?_
 cases o with
 |none=>exact hrb
 |some p=>
  obtain⟨m,ver⟩:=p
  obtain⟨cells,minv,tt,h1,h2,h3,h4⟩:=hrb
  exact⟨cells,minv,tt,h1,h2,h3.le hle.h hle.Φ,fun _=>.inr ⟨rfl,ver,rfl⟩⟩
theorem zqt{X:Gst}(hr:RH X){u:U}{v:SV}{x:AV}{l:List (El u)}{h':SH}(hv:RV X v x)(ht:take u v X.sh=some (l,h')):∃ Y,Stp X Y/\Y.h=X.h/\Y.sh=h'/\RSl Y.h Y.Φ false u l x:=by
 unfold take at ht
 split at ht
 ·cases ht;cases(show x=_ from hv);exact⟨X,.refl hr,rfl,rfl,.inl ⟨rfl,rfl⟩⟩
 ·obtain⟨e,e2⟩:=zwD ht;subst e;cases e2;exact⟨X,.refl hr,rfl,rfl,hv⟩
 ·
  split at ht
  ·rename_i loc n _ u' l' k md hb
   split at ht
   ·rename_i hn
    cases zj hn
    obtain⟨e,e2⟩:=zwD ht;subst e;cases e2
    obtain⟨o,Y,ho,hS,h1,h2,h3⟩:=Stp.freeze hr hb
    refine⟨Y,hS,h1,h2,?_⟩
    obtain⟨hone,o',ho',hc⟩:=hv
    rw[ho] at ho';cases ho'
    have hQ:=(hc _ _ _ _ hb).2 rfl
    have hB:=hr.blk _ _ _ hb ho
    cases o with
    |none=>obtain⟨rfl,_⟩:=hQ;exact .inl ⟨hB,rfl⟩
    |some p=>
     obtain⟨m,ver⟩:=p
     obtain⟨cells,minv,tt,q1,q2,q3,q4⟩:=hB
     cases(show x=_ from hQ)
     refine .inr ⟨m,0,ver,false,cells,rfl,.inl rfl,h3 m ver rfl,?_,(q3.le hS.le.h hS.le.Φ)⟩
     rw[h1,ziD q1 q2 _ _ _ (yb _),yO,yA (by rw[q3.1];exact yb _)]
   ·cases ht
  ·cases ht
 ·
  split at ht
  ·rename_i loc n off len _ u' l' k md hb
   split at ht
   ·rename_i hn
    cases zj hn
    obtain⟨e,e2⟩:=zwD ht;subst e;cases e2
    obtain⟨o,Y,ho,hS,h1,h2,h3⟩:=Stp.freeze hr hb
    refine⟨Y,hS,h1,h2,?_⟩
    obtain⟨hone,o',ho',hc⟩:=hv
    rw[ho] at ho';cases ho'
    obtain⟨hl,hQ⟩:=(hc _ _ _ _ hb).2 rfl
    have hB:=hr.blk _ _ _ hb ho
    cases o with
    |none=>
     cases(show x=_ from hQ)
     refine .inl ⟨?_,rfl⟩
     rw[show l'=[] from hB];simp [slice]
    |some p=>
     obtain⟨m,ver⟩:=p
     obtain⟨cells,minv,tt,q1,q2,q3,q4⟩:=hB
     cases(show x=_ from hQ)
     have hlen:=zct hl
     refine .inr ⟨m,off*u'.sz,ver,false,(cells.drop (off*u'.sz)).take (len*u'.sz),by rw[hlen],.inl rfl,h3 m ver rfl,?_,((q3.slice hl).le hS.le.h hS.le.Φ)⟩
     rw[h1,hlen,ziD q1 q2 _ _ _ (yb _)]
   ·cases ht
  ·cases ht
 ·cases ht
theorem ztY{vs r:List SV}{h h':SH}{e:Bool}(hd:dec .bool vs h=some (e,r,h')):vs=.a (.bool e)::r/\h'=h:=by
 rcases vs with _|⟨v,vs⟩
 ·simp [dec] at hd
 ·cases v<;>first|(simp [dec] at hd;done)|skip
  rename_i w
  cases w<;>first|(simp [dec] at hd;done)|skip
  simp [dec] at hd;obtain⟨rfl,rfl,rfl⟩:=hd;exact⟨rfl,rfl⟩
theorem zwH{k:IntKind}{vs r:List SV}{h h':SH}{e:Int}(hd:dec (.int k) vs h=some (e,r,h')):vs=.a (.int k e)::r/\h'=h:=by
 rcases vs with _|⟨v,vs⟩
 ·simp [dec] at hd
 ·cases v<;>first|(simp [dec] at hd;done)|skip
  rename_i w
  cases w<;>first|(simp [dec] at hd;done)|skip
  simp [dec] at hd;obtain⟨rfl,rfl,rfl,rfl⟩:=hd;exact⟨rfl,rfl⟩
theorem zyN{vs r:List SV}{h h':SH}{e:UInt8}(hd:dec .u8 vs h=some (e,r,h')):vs=.u8 e::r/\h'=h:=by
 rcases vs with _|⟨v,vs⟩
 ·simp [dec] at hd
 ·cases v<;>first|(simp [dec] at hd;done)|skip
  simp [dec] at hd;obtain⟨rfl,rfl,rfl⟩:=hd;exact⟨rfl,rfl⟩
theorem zwI{vs r:List SV}{h h':SH}{e:List UInt8}(hd:dec .str vs h=some (e,r,h')):vs=.a (.str e)::r/\h'=h:=by
 rcases vs with _|⟨v,vs⟩
 ·simp [dec] at hd
 ·cases v<;>first|(simp [dec] at hd;done)|skip
  rename_i w
  cases w<;>first|(simp [dec] at hd;done)|skip
  simp [dec] at hd;obtain⟨rfl,rfl,rfl⟩:=hd;exact⟨rfl,rfl⟩
theorem zb0:∀ (u:U) {X:Gst} (hr:RH X) {vs r:List SV} {xs:List AV} {e:El u} {h':SH},RVs X vs xs->dec u vs X.sh=some (e,r,h') ->
  ∃ Y c1 c2,Stp X Y/\Y.h=X.h/\Y.sh=h'/\xs=c1++c2/\RE Y.h Y.Φ u e c1/\RVs Y r c2
 |.bool,X,hr,vs,r,xs,e,h',hv,hd=>by
  obtain⟨rfl,rfl⟩:=ztY hd
  obtain⟨x,t,rfl,h1,h2⟩:=hv
  exact⟨X,[_],t,.refl hr,rfl,rfl,rfl,by cases(show x=_ from h1);rfl,h2⟩
 |.int k,X,hr,vs,r,xs,e,h',hv,hd=>by
  obtain⟨rfl,rfl⟩:=zwH hd
  obtain⟨x,t,rfl,h1,h2⟩:=hv
  exact⟨X,[_],t,.refl hr,rfl,rfl,rfl,by cases(show x=_ from h1);rfl,h2⟩
 |.u8,X,hr,vs,r,xs,e,h',hv,hd=>by
  obtain⟨rfl,rfl⟩:=zyN hd
  obtain⟨x,t,rfl,h1,h2⟩:=hv
  exact⟨X,[_],t,.refl hr,rfl,rfl,rfl,by cases(show x=_ from h1);rfl,h2⟩
 |.str,X,hr,vs,r,xs,e,h',hv,hd=>by
  obtain⟨rfl,rfl⟩:=zwI hd
  obtain⟨x,t,rfl,h1,h2⟩:=hv
  exact⟨X,[_],t,.refl hr,rfl,rfl,rfl,by cases(show x=_ from h1);rfl,h2⟩
 |.sl u,X,hr,vs,r,xs,e,h',hv,hd=>by
  cases vs with
  |nil=>simp [dec] at hd
  |cons v vs=>
   obtain⟨x,t,rfl,h1,h2⟩:=hv
   simp only[dec] at hd
   split at hd
   ·rename_i l h2' ht
    cases hd
    obtain⟨Y,hS,hh,hs,hq⟩:=zqt hr h1 ht
    exact⟨Y,[x],t,hS,hh,hs,rfl,zww.2 ⟨x,rfl,hq⟩,h2.le hS.le⟩
   ·cases hd
 |.pair u v,X,hr,vs,r,xs,e,h',hv,hd=>by
  simp only[dec] at hd
  split at hd
  ·rename_i a r1 h1 hd1
   split at hd
   ·rename_i b r2 h2 hd2
    cases hd
    obtain⟨Y,c1,c2,S1,hh1,hs1,rfl,he1,hr1⟩:=zb0 u hr hv hd1
    rw[<- hs1] at hd2
    obtain⟨Z,c3,c4,S2,hh2,hs2,rfl,he2,hr2⟩:=zb0 v S1.hr hr1 hd2
    exact⟨Z,c1++c3,c4,S1.trans S2,hh2.trans hh1,hs2,(yW _ _ _).symm,⟨c1,c3,rfl,he1.le S2.le.h S2.le.Φ,he2⟩,hr2⟩
   ·cases hd
  ·cases hd
 |.unit,X,hr,vs,r,xs,e,h',hv,hd=>by
  simp only[dec] at hd;cases hd
  exact⟨X,[],xs,.refl hr,rfl,rfl,rfl,rfl,hv⟩
theorem zhz{sz i:Nat}{c1 c2:List AV}(h:c1.length=sz):part sz (c1++c2) (i+1)=part sz c2 i:=by
 rw[jE,jE,vl,h,yv,yX (by omega),vo,vB]
theorem zhA{sz:Nat}{c1 c2:List AV}(h:c1.length=sz):part sz (c1++c2) 0=c1:=by
 rw[jE,vj,yO,yM (by omega),yA (by omega)]
theorem RCs.cons{h:zg}{Φ:Nat->Prop}{u:U}{e:El u}{l:List (El u)}{c1 c2:List AV}(q:RE h Φ u e c1)(q2:RCs h Φ u l c2):RCs h Φ u (e::l) (c1++c2):=by
 refine⟨by rw[yu,q.length,q2.1,ve,yv];omega,fun i e' hi=>?_⟩
 cases i with
 |zero=>simp at hi;subst hi;rw[zhA q.length];exact q
 |succ i=>rw[zhz q.length];exact q2.2 i e' (by simpa using hi)
theorem RCs.append{h:zg}{Φ:Nat->Prop}{u:U}{l l':List (El u)}{c c':List AV}(q:RCs h Φ u l c)(q':RCs h Φ u l' c'):RCs h Φ u (l++l') (c++c'):=by
 refine⟨by rw[yu,yu,q.1,q'.1,yT],fun i e hi=>?_⟩
 by_cases hl:i<l.length
 ·rw[yq hl] at hi
  have:=q.2 i e hi
  have hm:i*u.sz+u.sz<=l.length*u.sz:=by rw[<- yv];exact yj _ hl
  rw[jE,vF (by rw[q.1];omega),yM (by rw[yD,q.1];omega)]
  exact this
 ·rw[yi (by omega)] at hi
  have:=q'.2 _ e hi
  rw[jE,vl,yX (by rw[q.1];exact yj _ (by omega)),vo,q.1,<- ui]
  exact this
theorem RCs.nil{h:zg}{Φ:Nat->Prop}{u:U}:RCs h Φ u [] []:=⟨by simp,fun i e hi=>by simp at hi⟩
theorem zjw(u:U):∀ (k:Nat) {X:Gst} (hr:RH X) {vs:List SV} {xs:List AV} {l:List (El u)} {h':SH},RVs X vs xs->zxO u k vs X.sh=some (l,h') ->
  ∃ Y,Stp X Y/\Y.h=X.h/\Y.sh=h'/\l.length=k/\RCs Y.h Y.Φ u l xs
 |0,X,hr,vs,xs,l,h',hv,hd=>by
  cases vs with
  |nil=>simp only[zxO] at hd;cases hd;cases(show xs=[] from hv);exact⟨X,.refl hr,rfl,rfl,rfl,.nil⟩
  |cons v vs=>simp [zxO] at hd
 |k+1,X,hr,vs,xs,l,h',hv,hd=>by
  simp only[zxO] at hd
  split at hd
  ·rename_i x r1 h1 hd1
   split at hd
   ·rename_i l2 h2 hd2
    cases hd
    obtain⟨Y,c1,c2,S1,hh1,hs1,rfl,he1,hr1⟩:=zb0 u hr hv hd1
    rw[<- hs1] at hd2
    obtain⟨Z,S2,hh2,hs2,hl,hq⟩:=zjw u k S1.hr hr1 hd2
    exact⟨Z,S1.trans S2,hh2.trans hh1,hs2,by simp [hl],.cons (he1.le S2.le.h S2.le.Φ) hq⟩
   ·cases hd
  ·cases hd
def reads(u:U)(v:SV)(h:SH):Option (List (El u)):=match v with
 |.a .qC=>some []
 |.isl u' l=>zbr u' u l
 |.cl u' l=>zbr u' u l
 |.nsl u' l=>zbr u' u l
 |.gs loc n=>match h[loc]? with
  |some (.seq u' l m _)=>match yo m n with
   |true=>zbr u' u l
   |false=>none
  |_=>none
 |.sl loc n off len _=>match h[loc]? with
  |some (.seq u' l m _)=>match yo m n with
   |true=>zbr u' u (slice l off (off+len))
   |false=>none
  |_=>none
 |_=>none
theorem zb7{X:Gst}(hr:RH X){u:U}{v:SV}{x:AV}{l:List (El u)}(hv:RV X v x)(ht:reads u v X.sh=some l):
  (l=[]/\x=.qC)\/∃ m off ver clip cs,x=.sl m off l.length u.sz ver clip/\rd X.h m off ver (off+l.length*u.sz) (l.length*u.sz)=some cs/\RCs X.h X.Φ u l cs:=by
 unfold reads at ht
 split at ht
 ·cases ht;cases(show x=_ from hv);exact .inl ⟨rfl,rfl⟩
 ·obtain⟨e,e2⟩:=jm ht;subst e;cases e2;exact hv.imp id fun⟨m,off,ver,c',cs,h1,h0,h2,h3,h4⟩=>⟨m,off,ver,c',cs,h1,h3,h4⟩
 ·obtain⟨e,e2⟩:=jm ht;subst e;cases e2;exact hv.1.imp id fun⟨m,off,ver,c',cs,h1,h0,h2,h3,h4⟩=>⟨m,off,ver,c',cs,h1,h3,h4⟩
 ·obtain⟨e,e2⟩:=jm ht;subst e;cases e2;obtain⟨m,off,ver,c',cs,h1,h0,h2,h3,h4⟩:=hv;exact .inr ⟨m,off,ver,c',cs,h1,h3,h4⟩
 ·split at ht
  ·rename_i loc n _ u' l' k md hb
   split at ht
   ·rename_i hn
    cases zj hn
    obtain⟨e,e2⟩:=jm ht;subst e;cases e2
    obtain⟨hone,o,ho,hc⟩:=hv
    have hQ:=(hc _ _ _ _ hb).2 rfl
    have hB:=hr.blk _ _ _ hb ho
    cases o with
    |none=>obtain⟨rfl,_⟩:=hQ;exact .inl ⟨hB,rfl⟩
    |some p=>
     obtain⟨m,ver⟩:=p
     obtain⟨cells,minv,tt,q1,q2,q3,q4⟩:=hB
     cases(show x=_ from hQ)
     refine .inr ⟨m,0,ver,false,cells,rfl,?_,q3⟩
     rw[ziD q1 q2 _ _ _ (yb _),yO,yA (by rw[q3.1];exact yb _)]
   ·cases ht
  ·cases ht
 ·split at ht
  ·rename_i loc n off len c _ u' l' k md hb
   split at ht
   ·rename_i hn
    cases zj hn
    obtain⟨e,e2⟩:=jm ht;subst e;cases e2
    obtain⟨hone,o,ho,hc⟩:=hv
    obtain⟨hl,hQ⟩:=(hc _ _ _ _ hb).2 rfl
    have hB:=hr.blk _ _ _ hb ho
    cases o with
    |none=>
     cases(show x=_ from hQ)
     refine .inl ⟨?_,rfl⟩
     rw[show l'=[] from hB];simp [slice]
    |some p=>
     obtain⟨m,ver⟩:=p
     obtain⟨cells,minv,tt,q1,q2,q3,q4⟩:=hB
     cases(show x=_ from hQ)
     have hlen:=zct hl
     refine .inr ⟨m,off*u'.sz,ver,c,(cells.drop (off*u'.sz)).take (len*u'.sz),by rw[hlen],?_,q3.slice hl⟩
     rw[hlen,ziD q1 q2 _ _ _ (yb _)]
   ·cases ht
  ·cases ht
 ·cases ht
end Go.Sx
namespace Go.Sx
open Go Go.Gx Go.Mx
variable [kF]
inductive SR where
 |val (v:SV) (h:SH)|unit (h:SH)|call (c:FuncId ⊕ Nat) (args:List SV)|dfr (f:FuncId) (args cap:List SV)
abbrev zlv:=List (Bool×SR)
def Hit:zlv->SR->Prop
 | [],_=>False
 |(g,r)::l,q=>(g=true/\r=q)\/(g=false/\Hit l q)
def one(g:Bool)(v:SV)(h:SH):zlv:=[(g,.val v h)]
def zph(h:SH):Option SV->zlv
 |some v=>[(true,.val v h)]
 |none=>[]
def zxT(h:SH):Option (Bool×SV)->zlv
 |some (g,v)=>[(g,.val v h)]
 |none=>[]
def zxU:Option (Bool×SV×SH)->zlv
 |some (g,v,h)=>[(g,.val v h)]
 |none=>[]
def zz4:Option SH->zlv
 |some h=>[(true,.unit h)]
 |none=>[]
theorem xN{g:Bool}{v:SV}{h:SH}{q:SR}(k:Hit (one g v h) q):g=true/\q=.val v h:=by
 rcases k with⟨h1,h2⟩|⟨_,h2⟩
 ·exact⟨h1,h2.symm⟩
 ·cases h2
theorem zfI{h:SH}{o:Option SV}{q:SR}(k:Hit (zph h o) q):∃ v,o=some v/\q=.val v h:=by
 cases o with
 |none=>cases k
 |some v=>exact⟨v,rfl,(xN (g:=true) k).2⟩
theorem zpX{h:SH}{o:Option (Bool×SV)}{q:SR}(k:Hit (zxT h o) q):∃ v,o=some (true,v)/\q=.val v h:=by
 cases o with
 |none=>cases k
 |some p=>obtain⟨g,v⟩:=p;obtain⟨rfl,h2⟩:=xN (g:=g) k;exact⟨v,rfl,h2⟩
theorem zrr{o:Option (Bool×SV×SH)}{q:SR}(k:Hit (zxU o) q):∃ v h,o=some (true,v,h)/\q=.val v h:=by
 cases o with
 |none=>cases k
 |some p=>obtain⟨g,v,h⟩:=p;obtain⟨rfl,h2⟩:=xN (g:=g) k;exact⟨v,h,rfl,h2⟩
theorem zA6{o:Option SH}{q:SR}(k:Hit (zz4 o) q):∃ h,o=some h/\q=.unit h:=by
 cases o with
 |none=>cases k
 |some h=>
  rcases k with⟨_,h2⟩|⟨h1,_⟩
  ·exact⟨h,rfl,h2.symm⟩
  ·cases h1
abbrev GL:=List (Option (List SV))
def Gst.base(X:Gst):Gst:=⟨X.h,X.Φ,[],[]⟩
theorem zwz{X:Gst}(h:X.σ.length=X.sh.length):X.base.le X:=⟨fun _ _=>rfl,fun _ h=>h,vy _,fun loc m v h=>by simp [Gst.base] at h,fun loc u l k md h=>by simp [Gst.base] at h,rfl⟩
theorem zqQ{X Y:Gst}(h:X.le Y):X.base.le Y.base:=⟨h.h,h.Φ,yb _,fun loc m v h=>by simp [Gst.base] at h,fun loc u l k md h=>by simp [Gst.base] at h,rfl⟩
def RGl(P:Program)(gl:GL)(X:Gst):Prop:=∀ (g:Nat) (cs:List SV),gl[g]?=some (some cs)->g<P.globals.size/\X.Φ g/\∃ cells,X.h[g]?=some (.lay cells)/\RVs X.base cs cells
theorem RGl.le{P:Program}{gl:GL}{X Y:Gst}(h:RGl P gl X)(hl:X.le Y):RGl P gl Y:=fun g cs hg=>let⟨h1,h2,cells,h3,h4⟩:=h g cs hg;⟨h1,hl.Φ _ h2,cells,(hl.h _ h2).trans h3,h4.le (zqQ hl)⟩
def tl8(l:List SV):List SV:=ya (motive:=fun _=>List SV) l [] fun _ t1=>ya (motive:=fun _=>List SV) t1 [] fun _ t2=>ya (motive:=fun _=>List SV) t2 [] fun _ t3=>ya (motive:=fun _=>List SV) t3 [] fun _ t4=>ya (motive:=fun _=>List SV) t4 [] fun _ t5=>ya (motive:=fun _=>List SV) t5 [] fun _ t6=>ya (motive:=fun _=>List SV) t6 [] fun _ t7=>ya (motive:=fun _=>List SV) t7 [] fun _ t8=>t8
def gt8(l:List SV)(n:Nat):Option SV:=ya (motive:=fun _=>Option SV) l none fun a t1=>yB (motive:=fun _=>Option SV) n (some a) fun n1=>ya (motive:=fun _=>Option SV) t1 none fun a t2=>yB (motive:=fun _=>Option SV) n1 (some a) fun n2=>ya (motive:=fun _=>Option SV) t2 none fun a t3=>yB (motive:=fun _=>Option SV) n2 (some a) fun n3=>ya (motive:=fun _=>Option SV) t3 none fun a t4=>yB (motive:=fun _=>Option SV) n3 (some a) fun n4=>ya (motive:=fun _=>Option SV) t4 none fun a t5=>yB (motive:=fun _=>Option SV) n4 (some a) fun n5=>ya (motive:=fun _=>Option SV) t5 none fun a t6=>yB (motive:=fun _=>Option SV) n5 (some a) fun n6=>ya (motive:=fun _=>Option SV) t6 none fun a t7=>yB (motive:=fun _=>Option SV) n6 (some a) fun n7=>ya (motive:=fun _=>Option SV) t7 none fun a t8=>yB (motive:=fun _=>Option SV) n7 (some a) fun n8=>none
def zBj(l:List SV)(n:Nat):Option SV:=l[n]?
def zzB(l:List SV)(n:Nat):Option SV:=yg (motive:=fun _=>Option SV) (ym n 8) (zBj (tl8 l) (n-8)) (gt8 l n)
def zzC(l:List SV)(n:Nat):Option SV:=yg (motive:=fun _=>Option SV) (ym n 8) (zzB (tl8 l) (n-8)) (gt8 l n)
def zzD(l:List SV)(n:Nat):Option SV:=yg (motive:=fun _=>Option SV) (ym n 8) (zzC (tl8 l) (n-8)) (gt8 l n)
def zzE(l:List SV)(n:Nat):Option SV:=yg (motive:=fun _=>Option SV) (ym n 8) (zzD (tl8 l) (n-8)) (gt8 l n)
def zzF(l:List SV)(n:Nat):Option SV:=yg (motive:=fun _=>Option SV) (ym n 8) (zzE (tl8 l) (n-8)) (gt8 l n)
def zzG(l:List SV)(n:Nat):Option SV:=yg (motive:=fun _=>Option SV) (ym n 8) (zzF (tl8 l) (n-8)) (gt8 l n)
def zzH(l:List SV)(n:Nat):Option SV:=yg (motive:=fun _=>Option SV) (ym n 8) (zzG (tl8 l) (n-8)) (gt8 l n)
def zzI(l:List SV)(n:Nat):Option SV:=yg (motive:=fun _=>Option SV) (ym n 8) (zzH (tl8 l) (n-8)) (gt8 l n)
def zzJ(l:List SV)(n:Nat):Option SV:=yg (motive:=fun _=>Option SV) (ym n 8) (zzI (tl8 l) (n-8)) (gt8 l n)
def zzK(l:List SV)(n:Nat):Option SV:=yg (motive:=fun _=>Option SV) (ym n 8) (zzJ (tl8 l) (n-8)) (gt8 l n)
def zv1(l:List SV)(n:Nat):Option SV:=yg (motive:=fun _=>Option SV) (ym n 8) (zzK (tl8 l) (n-8)) (gt8 l n)
def zv2(l:List SV)(n:Nat):Option SV:=yg (motive:=fun _=>Option SV) (ym n 8) (zv1 (tl8 l) (n-8)) (gt8 l n)
def zv3(l:List SV)(n:Nat):Option SV:=yg (motive:=fun _=>Option SV) (ym n 8) (zv2 (tl8 l) (n-8)) (gt8 l n)
def zv4(l:List SV)(n:Nat):Option SV:=yg (motive:=fun _=>Option SV) (ym n 8) (zv3 (tl8 l) (n-8)) (gt8 l n)
def zv5(l:List SV)(n:Nat):Option SV:=yg (motive:=fun _=>Option SV) (ym n 8) (zv4 (tl8 l) (n-8)) (gt8 l n)
def zuQ(l:List SV)(n:Nat):Option SV:=yg (motive:=fun _=>Option SV) (ym n 8) (zv5 (tl8 l) (n-8)) (gt8 l n)
def st8(l:List SV)(n:Nat)(v:SV):List SV:=ya (motive:=fun _=>List SV) l l fun a t1=>yB (motive:=fun _=>List SV) n (v::t1) fun n1=>ya (motive:=fun _=>List SV) t1 l fun b t2=>yB (motive:=fun _=>List SV) n1 (a::v::t2) fun n2=>ya (motive:=fun _=>List SV) t2 l fun c t3=>yB (motive:=fun _=>List SV) n2 (a::b::v::t3) fun n3=>ya (motive:=fun _=>List SV) t3 l fun d t4=>yB (motive:=fun _=>List SV) n3 (a::b::c::v::t4) fun n4=>ya (motive:=fun _=>List SV) t4 l fun e t5=>yB (motive:=fun _=>List SV) n4 (a::b::c::d::v::t5) fun n5=>ya (motive:=fun _=>List SV) t5 l fun f t6=>yB (motive:=fun _=>List SV) n5 (a::b::c::d::e::v::t6) fun n6=>ya (motive:=fun _=>List SV) t6 l fun g t7=>yB (motive:=fun _=>List SV) n6 (a::b::c::d::e::f::v::t7) fun n7=>ya (motive:=fun _=>List SV) t7 l fun h t8=>yB (motive:=fun _=>List SV) n7 (a::b::c::d::e::f::g::v::t8) fun n8=>l
def zBk(l:List SV)(n:Nat)(v:SV):List SV:=l.set n v
def zzL(l:List SV)(n:Nat)(v:SV):List SV:=yg (motive:=fun _=>List SV) (ym n 8) (ya (motive:=fun _=>List SV) l l fun a t1=>ya (motive:=fun _=>List SV) t1 l fun b t2=>ya (motive:=fun _=>List SV) t2 l fun c t3=>ya (motive:=fun _=>List SV) t3 l fun d t4=>ya (motive:=fun _=>List SV) t4 l fun e t5=>ya (motive:=fun _=>List SV) t5 l fun f t6=>ya (motive:=fun _=>List SV) t6 l fun g t7=>ya (motive:=fun _=>List SV) t7 l fun h t8=>a::b::c::d::e::f::g::h::zBk t8 (n-8) v) (st8 l n v)
def zzM(l:List SV)(n:Nat)(v:SV):List SV:=yg (motive:=fun _=>List SV) (ym n 8) (ya (motive:=fun _=>List SV) l l fun a t1=>ya (motive:=fun _=>List SV) t1 l fun b t2=>ya (motive:=fun _=>List SV) t2 l fun c t3=>ya (motive:=fun _=>List SV) t3 l fun d t4=>ya (motive:=fun _=>List SV) t4 l fun e t5=>ya (motive:=fun _=>List SV) t5 l fun f t6=>ya (motive:=fun _=>List SV) t6 l fun g t7=>ya (motive:=fun _=>List SV) t7 l fun h t8=>a::b::c::d::e::f::g::h::zzL t8 (n-8) v) (st8 l n v)
def zzN(l:List SV)(n:Nat)(v:SV):List SV:=yg (motive:=fun _=>List SV) (ym n 8) (ya (motive:=fun _=>List SV) l l fun a t1=>ya (motive:=fun _=>List SV) t1 l fun b t2=>ya (motive:=fun _=>List SV) t2 l fun c t3=>ya (motive:=fun _=>List SV) t3 l fun d t4=>ya (motive:=fun _=>List SV) t4 l fun e t5=>ya (motive:=fun _=>List SV) t5 l fun f t6=>ya (motive:=fun _=>List SV) t6 l fun g t7=>ya (motive:=fun _=>List SV) t7 l fun h t8=>a::b::c::d::e::f::g::h::zzM t8 (n-8) v) (st8 l n v)
def zzO(l:List SV)(n:Nat)(v:SV):List SV:=yg (motive:=fun _=>List SV) (ym n 8) (ya (motive:=fun _=>List SV) l l fun a t1=>ya (motive:=fun _=>List SV) t1 l fun b t2=>ya (motive:=fun _=>List SV) t2 l fun c t3=>ya (motive:=fun _=>List SV) t3 l fun d t4=>ya (motive:=fun _=>List SV) t4 l fun e t5=>ya (motive:=fun _=>List SV) t5 l fun f t6=>ya (motive:=fun _=>List SV) t6 l fun g t7=>ya (motive:=fun _=>List SV) t7 l fun h t8=>a::b::c::d::e::f::g::h::zzN t8 (n-8) v) (st8 l n v)
def zzP(l:List SV)(n:Nat)(v:SV):List SV:=yg (motive:=fun _=>List SV) (ym n 8) (ya (motive:=fun _=>List SV) l l fun a t1=>ya (motive:=fun _=>List SV) t1 l fun b t2=>ya (motive:=fun _=>List SV) t2 l fun c t3=>ya (motive:=fun _=>List SV) t3 l fun d t4=>ya (motive:=fun _=>List SV) t4 l fun e t5=>ya (motive:=fun _=>List SV) t5 l fun f t6=>ya (motive:=fun _=>List SV) t6 l fun g t7=>ya (motive:=fun _=>List SV) t7 l fun h t8=>a::b::c::d::e::f::g::h::zzO t8 (n-8) v) (st8 l n v)
def zzQ(l:List SV)(n:Nat)(v:SV):List SV:=yg (motive:=fun _=>List SV) (ym n 8) (ya (motive:=fun _=>List SV) l l fun a t1=>ya (motive:=fun _=>List SV) t1 l fun b t2=>ya (motive:=fun _=>List SV) t2 l fun c t3=>ya (motive:=fun _=>List SV) t3 l fun d t4=>ya (motive:=fun _=>List SV) t4 l fun e t5=>ya (motive:=fun _=>List SV) t5 l fun f t6=>ya (motive:=fun _=>List SV) t6 l fun g t7=>ya (motive:=fun _=>List SV) t7 l fun h t8=>a::b::c::d::e::f::g::h::zzP t8 (n-8) v) (st8 l n v)
def zzR(l:List SV)(n:Nat)(v:SV):List SV:=yg (motive:=fun _=>List SV) (ym n 8) (ya (motive:=fun _=>List SV) l l fun a t1=>ya (motive:=fun _=>List SV) t1 l fun b t2=>ya (motive:=fun _=>List SV) t2 l fun c t3=>ya (motive:=fun _=>List SV) t3 l fun d t4=>ya (motive:=fun _=>List SV) t4 l fun e t5=>ya (motive:=fun _=>List SV) t5 l fun f t6=>ya (motive:=fun _=>List SV) t6 l fun g t7=>ya (motive:=fun _=>List SV) t7 l fun h t8=>a::b::c::d::e::f::g::h::zzQ t8 (n-8) v) (st8 l n v)
def zzS(l:List SV)(n:Nat)(v:SV):List SV:=yg (motive:=fun _=>List SV) (ym n 8) (ya (motive:=fun _=>List SV) l l fun a t1=>ya (motive:=fun _=>List SV) t1 l fun b t2=>ya (motive:=fun _=>List SV) t2 l fun c t3=>ya (motive:=fun _=>List SV) t3 l fun d t4=>ya (motive:=fun _=>List SV) t4 l fun e t5=>ya (motive:=fun _=>List SV) t5 l fun f t6=>ya (motive:=fun _=>List SV) t6 l fun g t7=>ya (motive:=fun _=>List SV) t7 l fun h t8=>a::b::c::d::e::f::g::h::zzR t8 (n-8) v) (st8 l n v)
def zzT(l:List SV)(n:Nat)(v:SV):List SV:=yg (motive:=fun _=>List SV) (ym n 8) (ya (motive:=fun _=>List SV) l l fun a t1=>ya (motive:=fun _=>List SV) t1 l fun b t2=>ya (motive:=fun _=>List SV) t2 l fun c t3=>ya (motive:=fun _=>List SV) t3 l fun d t4=>ya (motive:=fun _=>List SV) t4 l fun e t5=>ya (motive:=fun _=>List SV) t5 l fun f t6=>ya (motive:=fun _=>List SV) t6 l fun g t7=>ya (motive:=fun _=>List SV) t7 l fun h t8=>a::b::c::d::e::f::g::h::zzS t8 (n-8) v) (st8 l n v)
def zzU(l:List SV)(n:Nat)(v:SV):List SV:=yg (motive:=fun _=>List SV) (ym n 8) (ya (motive:=fun _=>List SV) l l fun a t1=>ya (motive:=fun _=>List SV) t1 l fun b t2=>ya (motive:=fun _=>List SV) t2 l fun c t3=>ya (motive:=fun _=>List SV) t3 l fun d t4=>ya (motive:=fun _=>List SV) t4 l fun e t5=>ya (motive:=fun _=>List SV) t5 l fun f t6=>ya (motive:=fun _=>List SV) t6 l fun g t7=>ya (motive:=fun _=>List SV) t7 l fun h t8=>a::b::c::d::e::f::g::h::zzT t8 (n-8) v) (st8 l n v)
def zwa(l:List SV)(n:Nat)(v:SV):List SV:=yg (motive:=fun _=>List SV) (ym n 8) (ya (motive:=fun _=>List SV) l l fun a t1=>ya (motive:=fun _=>List SV) t1 l fun b t2=>ya (motive:=fun _=>List SV) t2 l fun c t3=>ya (motive:=fun _=>List SV) t3 l fun d t4=>ya (motive:=fun _=>List SV) t4 l fun e t5=>ya (motive:=fun _=>List SV) t5 l fun f t6=>ya (motive:=fun _=>List SV) t6 l fun g t7=>ya (motive:=fun _=>List SV) t7 l fun h t8=>a::b::c::d::e::f::g::h::zzU t8 (n-8) v) (st8 l n v)
def zwb(l:List SV)(n:Nat)(v:SV):List SV:=yg (motive:=fun _=>List SV) (ym n 8) (ya (motive:=fun _=>List SV) l l fun a t1=>ya (motive:=fun _=>List SV) t1 l fun b t2=>ya (motive:=fun _=>List SV) t2 l fun c t3=>ya (motive:=fun _=>List SV) t3 l fun d t4=>ya (motive:=fun _=>List SV) t4 l fun e t5=>ya (motive:=fun _=>List SV) t5 l fun f t6=>ya (motive:=fun _=>List SV) t6 l fun g t7=>ya (motive:=fun _=>List SV) t7 l fun h t8=>a::b::c::d::e::f::g::h::zwa t8 (n-8) v) (st8 l n v)
def zwc(l:List SV)(n:Nat)(v:SV):List SV:=yg (motive:=fun _=>List SV) (ym n 8) (ya (motive:=fun _=>List SV) l l fun a t1=>ya (motive:=fun _=>List SV) t1 l fun b t2=>ya (motive:=fun _=>List SV) t2 l fun c t3=>ya (motive:=fun _=>List SV) t3 l fun d t4=>ya (motive:=fun _=>List SV) t4 l fun e t5=>ya (motive:=fun _=>List SV) t5 l fun f t6=>ya (motive:=fun _=>List SV) t6 l fun g t7=>ya (motive:=fun _=>List SV) t7 l fun h t8=>a::b::c::d::e::f::g::h::zwb t8 (n-8) v) (st8 l n v)
def zwd(l:List SV)(n:Nat)(v:SV):List SV:=yg (motive:=fun _=>List SV) (ym n 8) (ya (motive:=fun _=>List SV) l l fun a t1=>ya (motive:=fun _=>List SV) t1 l fun b t2=>ya (motive:=fun _=>List SV) t2 l fun c t3=>ya (motive:=fun _=>List SV) t3 l fun d t4=>ya (motive:=fun _=>List SV) t4 l fun e t5=>ya (motive:=fun _=>List SV) t5 l fun f t6=>ya (motive:=fun _=>List SV) t6 l fun g t7=>ya (motive:=fun _=>List SV) t7 l fun h t8=>a::b::c::d::e::f::g::h::zwc t8 (n-8) v) (st8 l n v)
def zwe(l:List SV)(n:Nat)(v:SV):List SV:=yg (motive:=fun _=>List SV) (ym n 8) (ya (motive:=fun _=>List SV) l l fun a t1=>ya (motive:=fun _=>List SV) t1 l fun b t2=>ya (motive:=fun _=>List SV) t2 l fun c t3=>ya (motive:=fun _=>List SV) t3 l fun d t4=>ya (motive:=fun _=>List SV) t4 l fun e t5=>ya (motive:=fun _=>List SV) t5 l fun f t6=>ya (motive:=fun _=>List SV) t6 l fun g t7=>ya (motive:=fun _=>List SV) t7 l fun h t8=>a::b::c::d::e::f::g::h::zwd t8 (n-8) v) (st8 l n v)
def sset(l:List SV)(n:Nat)(v:SV):List SV:=yg (motive:=fun _=>List SV) (ym n 8) (ya (motive:=fun _=>List SV) l l fun a t1=>ya (motive:=fun _=>List SV) t1 l fun b t2=>ya (motive:=fun _=>List SV) t2 l fun c t3=>ya (motive:=fun _=>List SV) t3 l fun d t4=>ya (motive:=fun _=>List SV) t4 l fun e t5=>ya (motive:=fun _=>List SV) t5 l fun f t6=>ya (motive:=fun _=>List SV) t6 l fun g t7=>ya (motive:=fun _=>List SV) t7 l fun h t8=>a::b::c::d::e::f::g::h::zwe t8 (n-8) v) (st8 l n v)
theorem zBR(n:Nat):ym (n+8) 8=false:=by
 cases h:ym (n+8) 8 with
 |false=>rfl
 |true=>rw[vJ] at h;omega
theorem zxI(l:List SV)(n:Nat):(tl8 l)[n]?=l[n+8]?:=match l with
 | []=>rfl
 | [a]=>rfl
 | [a,b]=>rfl
 | [a,b,c]=>rfl
 | [a,b,c,d]=>rfl
 | [a,b,c,d,e]=>rfl
 | [a,b,c,d,e,f]=>rfl
 | [a,b,c,d,e,f,g]=>rfl
 |a::b::c::d::e::f::g::h::t=>rfl
theorem xu{f:List SV->Nat->Option SV}(hf:∀ l n,f l n=l[n]?)(l:List SV)(n:Nat):(yg (motive:=fun _=>Option SV) (ym n 8) (f (tl8 l) (n-8)) (gt8 l n):Option SV)=l[n]?:=match n with
 |0=>match l with
  | []=>rfl
  | [a]=>rfl
  | [a,b]=>rfl
  | [a,b,c]=>rfl
  | [a,b,c,d]=>rfl
  | [a,b,c,d,e]=>rfl
  | [a,b,c,d,e,f]=>rfl
  | [a,b,c,d,e,f,g]=>rfl
  |a::b::c::d::e::f::g::h::t=>rfl
 |1=>match l with
  | []=>rfl
  | [a]=>rfl
  | [a,b]=>rfl
  | [a,b,c]=>rfl
  | [a,b,c,d]=>rfl
  | [a,b,c,d,e]=>rfl
  | [a,b,c,d,e,f]=>rfl
  | [a,b,c,d,e,f,g]=>rfl
  |a::b::c::d::e::f::g::h::t=>rfl
 |2=>match l with
  | []=>rfl
  | [a]=>rfl
  | [a,b]=>rfl
  | [a,b,c]=>rfl
  | [a,b,c,d]=>rfl
  | [a,b,c,d,e]=>rfl
  | [a,b,c,d,e,f]=>rfl
  | [a,b,c,d,e,f,g]=>rfl
  |a::b::c::d::e::f::g::h::t=>rfl
 |3=>match l with
  | []=>rfl
  | [a]=>rfl
  | [a,b]=>rfl
  | [a,b,c]=>rfl
  | [a,b,c,d]=>rfl
  | [a,b,c,d,e]=>rfl
  | [a,b,c,d,e,f]=>rfl
  | [a,b,c,d,e,f,g]=>rfl
  |a::b::c::d::e::f::g::h::t=>rfl
 |4=>match l with
  | []=>rfl
  | [a]=>rfl
  | [a,b]=>rfl
  | [a,b,c]=>rfl
  | [a,b,c,d]=>rfl
  | [a,b,c,d,e]=>rfl
  | [a,b,c,d,e,f]=>rfl
  | [a,b,c,d,e,f,g]=>rfl
  |a::b::c::d::e::f::g::h::t=>rfl
 |5=>match l with
  | []=>rfl
  | [a]=>rfl
  | [a,b]=>rfl
  | [a,b,c]=>rfl
  | [a,b,c,d]=>rfl
  | [a,b,c,d,e]=>rfl
  | [a,b,c,d,e,f]=>rfl
  | [a,b,c,d,e,f,g]=>rfl
  |a::b::c::d::e::f::g::h::t=>rfl
 |6=>match l with
  | []=>rfl
  | [a]=>rfl
  | [a,b]=>rfl
  | [a,b,c]=>rfl
  | [a,b,c,d]=>rfl
  | [a,b,c,d,e]=>rfl
  | [a,b,c,d,e,f]=>rfl
  | [a,b,c,d,e,f,g]=>rfl
  |a::b::c::d::e::f::g::h::t=>rfl
 |7=>match l with
  | []=>rfl
  | [a]=>rfl
  | [a,b]=>rfl
  | [a,b,c]=>rfl
  | [a,b,c,d]=>rfl
  | [a,b,c,d,e]=>rfl
  | [a,b,c,d,e,f]=>rfl
  | [a,b,c,d,e,f,g]=>rfl
  |a::b::c::d::e::f::g::h::t=>rfl
 |n+8=>by rw[zBR];show f (tl8 l) (n+8-8)=_;rw[vB,hf,zxI]
theorem zuR(l:List SV)(n:Nat):zzB l n=l[n]?:=xu (fun _ _=>rfl) l n
theorem zuS(l:List SV)(n:Nat):zzC l n=l[n]?:=xu zuR l n
theorem zuT(l:List SV)(n:Nat):zzD l n=l[n]?:=xu zuS l n
theorem zuU(l:List SV)(n:Nat):zzE l n=l[n]?:=xu zuT l n
theorem zuV(l:List SV)(n:Nat):zzF l n=l[n]?:=xu zuU l n
theorem zuW(l:List SV)(n:Nat):zzG l n=l[n]?:=xu zuV l n
theorem zuX(l:List SV)(n:Nat):zzH l n=l[n]?:=xu zuW l n
theorem zuY(l:List SV)(n:Nat):zzI l n=l[n]?:=xu zuX l n
theorem zuZ(l:List SV)(n:Nat):zzJ l n=l[n]?:=xu zuY l n
theorem zu0(l:List SV)(n:Nat):zzK l n=l[n]?:=xu zuZ l n
theorem zs5(l:List SV)(n:Nat):zv1 l n=l[n]?:=xu zu0 l n
theorem zs6(l:List SV)(n:Nat):zv2 l n=l[n]?:=xu zs5 l n
theorem zs7(l:List SV)(n:Nat):zv3 l n=l[n]?:=xu zs6 l n
theorem zs8(l:List SV)(n:Nat):zv4 l n=l[n]?:=xu zs7 l n
theorem zs9(l:List SV)(n:Nat):zv5 l n=l[n]?:=xu zs8 l n
theorem zeb(l:List SV)(n:Nat):zuQ l n=l[n]?:=xu zs9 l n
theorem xw{F:List SV->Nat->SV->List SV}(hf:∀ l n v,F l n v=l.set n v)(l:List SV)(n:Nat)(v:SV):(yg (motive:=fun _=>List SV) (ym n 8) (ya (motive:=fun _=>List SV) l l fun a t1=>ya (motive:=fun _=>List SV) t1 l fun b t2=>ya (motive:=fun _=>List SV) t2 l fun c t3=>ya (motive:=fun _=>List SV) t3 l fun d t4=>ya (motive:=fun _=>List SV) t4 l fun e t5=>ya (motive:=fun _=>List SV) t5 l fun f t6=>ya (motive:=fun _=>List SV) t6 l fun g t7=>ya (motive:=fun _=>List SV) t7 l fun h t8=>a::b::c::d::e::f::g::h::F t8 (n-8) v) (st8 l n v):List SV)=l.set n v:=match n with
 |0=>match l with
  | []=>rfl
  | [a]=>rfl
  | [a,b]=>rfl
  | [a,b,c]=>rfl
  | [a,b,c,d]=>rfl
  | [a,b,c,d,e]=>rfl
  | [a,b,c,d,e,f]=>rfl
  | [a,b,c,d,e,f,g]=>rfl
  |a::b::c::d::e::f::g::h::t=>rfl
 |1=>match l with
  | []=>rfl
  | [a]=>rfl
  | [a,b]=>rfl
  | [a,b,c]=>rfl
  | [a,b,c,d]=>rfl
  | [a,b,c,d,e]=>rfl
  | [a,b,c,d,e,f]=>rfl
  | [a,b,c,d,e,f,g]=>rfl
  |a::b::c::d::e::f::g::h::t=>rfl
 |2=>match l with
  | []=>rfl
  | [a]=>rfl
  | [a,b]=>rfl
  | [a,b,c]=>rfl
  | [a,b,c,d]=>rfl
  | [a,b,c,d,e]=>rfl
  | [a,b,c,d,e,f]=>rfl
  | [a,b,c,d,e,f,g]=>rfl
  |a::b::c::d::e::f::g::h::t=>rfl
 |3=>match l with
  | []=>rfl
  | [a]=>rfl
  | [a,b]=>rfl
  | [a,b,c]=>rfl
  | [a,b,c,d]=>rfl
  | [a,b,c,d,e]=>rfl
  | [a,b,c,d,e,f]=>rfl
  | [a,b,c,d,e,f,g]=>rfl
  |a::b::c::d::e::f::g::h::t=>rfl
 |4=>match l with
  | []=>rfl
  | [a]=>rfl
  | [a,b]=>rfl
  | [a,b,c]=>rfl
  | [a,b,c,d]=>rfl
  | [a,b,c,d,e]=>rfl
  | [a,b,c,d,e,f]=>rfl
  | [a,b,c,d,e,f,g]=>rfl
  |a::b::c::d::e::f::g::h::t=>rfl
 |5=>match l with
  | []=>rfl
  | [a]=>rfl
  | [a,b]=>rfl
  | [a,b,c]=>rfl
  | [a,b,c,d]=>rfl
  | [a,b,c,d,e]=>rfl
  | [a,b,c,d,e,f]=>rfl
  | [a,b,c,d,e,f,g]=>rfl
  |a::b::c::d::e::f::g::h::t=>rfl
 |6=>match l with
  | []=>rfl
  | [a]=>rfl
  | [a,b]=>rfl
  | [a,b,c]=>rfl
  | [a,b,c,d]=>rfl
  | [a,b,c,d,e]=>rfl
  | [a,b,c,d,e,f]=>rfl
  | [a,b,c,d,e,f,g]=>rfl
  |a::b::c::d::e::f::g::h::t=>rfl
 |7=>match l with
  | []=>rfl
  | [a]=>rfl
  | [a,b]=>rfl
  | [a,b,c]=>rfl
  | [a,b,c,d]=>rfl
  | [a,b,c,d,e]=>rfl
  | [a,b,c,d,e,f]=>rfl
  | [a,b,c,d,e,f,g]=>rfl
  |a::b::c::d::e::f::g::h::t=>rfl
 |n+8=>by
  rw[zBR]
  exact match l with
  | []=>rfl
  | [a]=>rfl
  | [a,b]=>rfl
  | [a,b,c]=>rfl
  | [a,b,c,d]=>rfl
  | [a,b,c,d,e]=>rfl
  | [a,b,c,d,e,f]=>rfl
  | [a,b,c,d,e,f,g]=>rfl
  |a::b::c::d::e::f::g::h::t=>by show a::b::c::d::e::f::g::h::F t (n+8-8) v=_;rw[vB,hf];rfl
theorem zu3(l:List SV)(n:Nat)(v:SV):zzL l n v=l.set n v:=xw (fun _ _ _=>rfl) l n v
theorem zu4(l:List SV)(n:Nat)(v:SV):zzM l n v=l.set n v:=xw zu3 l n v
theorem zu5(l:List SV)(n:Nat)(v:SV):zzN l n v=l.set n v:=xw zu4 l n v
theorem zu6(l:List SV)(n:Nat)(v:SV):zzO l n v=l.set n v:=xw zu5 l n v
theorem zu7(l:List SV)(n:Nat)(v:SV):zzP l n v=l.set n v:=xw zu6 l n v
theorem zu8(l:List SV)(n:Nat)(v:SV):zzQ l n v=l.set n v:=xw zu7 l n v
theorem zu9(l:List SV)(n:Nat)(v:SV):zzR l n v=l.set n v:=xw zu8 l n v
theorem zva(l:List SV)(n:Nat)(v:SV):zzS l n v=l.set n v:=xw zu9 l n v
theorem zvb(l:List SV)(n:Nat)(v:SV):zzT l n v=l.set n v:=xw zva l n v
theorem zvc(l:List SV)(n:Nat)(v:SV):zzU l n v=l.set n v:=xw zvb l n v
theorem ztf(l:List SV)(n:Nat)(v:SV):zwa l n v=l.set n v:=xw zvc l n v
theorem ztg(l:List SV)(n:Nat)(v:SV):zwb l n v=l.set n v:=xw ztf l n v
theorem zth(l:List SV)(n:Nat)(v:SV):zwc l n v=l.set n v:=xw ztg l n v
theorem zti(l:List SV)(n:Nat)(v:SV):zwd l n v=l.set n v:=xw zth l n v
theorem ztj(l:List SV)(n:Nat)(v:SV):zwe l n v=l.set n v:=xw zti l n v
theorem zox(l:List SV)(n:Nat)(v:SV):sset l n v=l.set n v:=xw ztj l n v
def sev(gl:GL)(env:List SV):Operand->Option SV
 |.tmp t=>zuQ env t
 |.const v=>match ofConst v with
  |some x=>zAi x
  |none=>none
 |.global g=>match gl[g]? with
  |some (some cs)=>some (.zjA g 0 cs.length)
  |_=>none
 |.func f=>some (.fn f [] [])
def ztJ(e:Operand->Option SV):List Operand->Option (List SV)
 | []=>some []
 |x::l=>match e x,ztJ e l with
  |some v,some vs=>some (v::vs)
  |_,_=>none
section
variable {P:Program} {gl:GL} {X:Gst}
theorem zgc{env:List SV}{me:Arr AV}(he:RVs X env me.toL)(hg:RGl P gl X){o:Operand}{v:SV}(h:sev gl env o=some v):∃ x,mev P me X.h o=some x/\RV X v x:=by
 cases o with
 |tmp t=>obtain⟨x,h1,h2⟩:=he.get ((zeb env t).symm.trans h);exact⟨x,Arr.jT.symm.trans h1,h2⟩
 |const c=>
  simp only[sev] at h
  split at h
  ·rename_i x hx;exact⟨x,hx,zjN h⟩
  ·cases h
 |global g=>
  simp only[sev] at h
  split at h
  ·rename_i cs hcs
   cases h
   obtain⟨h1,_,cells,h2,h3⟩:=hg g cs hcs
   exact⟨_,by simp only[mev];rw[if_pos h1,h2],by show _=_;rw[h3.length]⟩
  ·cases h
 |func f=>cases h;exact⟨_,rfl,_,_,rfl,rfl,rfl⟩
def EvR(X:Gst)(e:Operand->Option SV)(m:Operand->Option AV):Prop:=∀ o v,e o=some v->∃ x,m o=some x/\RV X v x
variable {e:Operand->Option SV} {m:Operand->Option AV}
theorem zbF(he:EvR X e m){l:List Operand}{vs:List SV}(h:ztJ e l=some vs):∃ xs,zje m l=some xs/\RVs X vs xs:=by
 induction l generalizing vs with
 |nil=>cases h;exact⟨[],rfl,rfl⟩
 |cons o l ih=>
  simp only[ztJ] at h
  split at h
  ·rename_i v vs' h1 h2
   cases h
   obtain⟨x,h3,h4⟩:=he _ _ h1
   obtain⟨xs,h5,h6⟩:=ih h2
   exact⟨x::xs,by simp only[zje,h3,h5],x,xs,rfl,h4,h6⟩
  ·cases h
def SRR(X:Gst):SR->Rs->Prop
 |.val v sh,.val x h=>∃ Y,Stp X Y/\Y.sh=sh/\Y.h=h/\RV Y v x
 |.unit sh,.unit h=>∃ Y,Stp X Y/\Y.sh=sh/\Y.h=h
 |.call (.inl f) a,.call (.f f') b=>f=f'/\RVs X a b
 |.call (.inr loc) a,.call (.y m) b=>X.at loc m/\RVs X a b
 |.dfr f a c,.dfr f' a' c'=>f=f'/\RVs X a a'/\RVs X c c'
 |_,_=>False
theorem SRR.same(hr:RH X){v:SV}{x:AV}(h:RV X v x):SRR X (.val v X.sh) (.val x X.h):=⟨X,.refl hr,rfl,rfl,h⟩
def zdd(gl:GL)(h:SH)(n:Nat):SV->Option (List SV)
 |.ptr loc off lim=>match h[loc]?,yQ (off+n) lim with
  |some (.cells l _ _),true=>some ((l.drop off).take n)
  |_,_=>none
 |.zks loc k i fo=>match h[loc]? with
  |some (.seq u l k' _)=>match yo k' k,yQ (fo+n) u.sz with
   |true,true=>some (((enc u (nth u l i)).drop fo).take n)
   |_,_=>none
  |_=>none
 |.zi2 u x fo=>match yQ (fo+n) u.sz with
  |true=>some (((enc u x).drop fo).take n)
  |false=>none
 |.zjA g off lim=>match gl[g]?,yQ (off+n) lim with
  |some (some l),true=>some ((l.drop off).take n)
  |_,_=>none
 |_=>none
theorem zcA{u:U}{l:List (El u)}{i:Nat}(h:i<l.length):l[i]?=some (nth u l i):=by
 unfold nth;rw[yP,yf h];rfl
theorem zfx(hr:RH X)(hg:RGl P gl X){n:Nat}{p:SV}{x:AV}{vs:List SV}(hp:RV X p x)(h:zdd gl X.sh n p=some vs):
  ∃ loc off ver lim xs,x=.ptr loc off ver lim/\rd X.h loc off ver lim n=some xs/\RVs X vs xs:=by
 unfold zdd at h
 split at h
 ·split at h
  ·rename_i loc off lim _ _ l md mk hb hle
   cases h
   obtain⟨m,⟨v,hσ⟩,rfl⟩:=hp
   obtain⟨m',l',tt,e,h1,h2⟩:=hr.blk _ _ _ hb hσ
   cases e
   exact⟨m,off,0,lim,_,rfl,ziD h1 (yb _) _ _ _ (yk hle),(h2.drop _).take _⟩
  ·cases h
 ·split at h
  ·rename_i loc k i fo _ u l k' md hb
   split at h
   ·rename_i hk hle
    cases h
    cases zj hk
    have hle:=yk hle
    obtain⟨hone,o,ho,hc⟩:=hp
    obtain⟨hi,m,ver,lim,rfl,rfl,hlim⟩:=(hc _ _ _ _ hb).2 rfl
    obtain⟨cells,minv,tt,q1,q2,q3,q4⟩:=hr.blk _ _ _ hb ho
    have hE:=zak (q3.2 i _ (zcA hi))
    refine⟨m,_,ver,lim,_,rfl,ziD q1 q2 _ _ _ ?_,?_⟩
    ·rw[yv] at hlim;omega
    ·have:=(hE.drop fo).take n
     rw[jE,yH,yz,yI,yw (by omega)] at this
     exact this
   ·cases h
  ·cases h
 ·split at h
  ·rename_i u e fo _ hle
   cases h
   have hle:=yk hle
   obtain⟨m,off,ver,lim,cs,rfl,h1,h2,⟨lim',h3⟩,h4,h5⟩:=hp
   refine⟨m,off+fo,ver,lim,(cs.drop fo).take n,rfl,?_,((zak h5).drop fo).take n⟩
   unfold rd at h3 |-
   split at h3
   ·rename_i cells v minv frz ro tt hb
    split at h3
    ·rename_i hc
     cases h3
     rw[if_pos ⟨hc.1,by omega⟩,yH,yz,yI,yw (by omega)]
    ·cases h3
   ·rename_i cells hb
    split at h3
    ·cases h3
     rw[if_pos (by omega),yH,yz,yI,yw (by omega)]
    ·cases h3
   ·cases h3
  ·cases h
 ·split at h
  ·rename_i g off lim _ _ l hgl hle
   cases h
   cases(show x=_ from hp)
   obtain⟨_,_,cells,h2,h3⟩:=hg g l hgl
   refine⟨g,off,0,lim,(cells.drop off).take n,rfl,?_,((h3.le (zwz hr.len)).drop off).take n⟩
   unfold rd;rw[h2];simp only
   rw[if_pos (yk hle)]
  ·cases h
 ·cases h
def zor(P:Program)(gl:GL)(h:SH)(t:TypeId)(p:SV):Option SV:=match zlp P t,zcC P t with
 |some true,some n=>match zdd gl h n p with
  |some cs=>some (.agg cs)
  |none=>none
 |some false,_=>match zdd gl h 1 p with
  |some [v]=>some v
  |_=>none
 |_,_=>none
theorem ziP(hr:RH X)(hg:RGl P gl X){t:TypeId}{p v:SV}{x:AV}(hp:RV X p x)(h:zor P gl X.sh t p=some v):∃ loc off ver lim,x=.ptr loc off ver lim/\∃ y,RV X v y /\
  ((∃ n cs,zlp P t=some true/\zcC P t=some n/\rd X.h loc off ver lim n=some cs/\y=.agg cs)\/(zlp P t=some false/\rd X.h loc off ver lim 1=some [y])):=by
 unfold zor at h
 split at h
 ·rename_i n ha hs
  split at h
  ·rename_i cs hc
   cases h
   obtain⟨loc,off,ver,lim,xs,rfl,h1,h2⟩:=zfx hr hg hp hc
   exact⟨loc,off,ver,lim,rfl,.agg xs,⟨xs,rfl,h2⟩,.inl ⟨n,xs,ha,hs,h1,rfl⟩⟩
  ·cases h
 ·rename_i ha
  split at h
  ·rename_i w hc
   cases h
   obtain⟨loc,off,ver,lim,xs,rfl,h1,h2⟩:=zfx hr hg hp hc
   obtain⟨y,t',rfl,h3,h4⟩:=h2
   cases(show t'=[] from h4)
   exact⟨loc,off,ver,lim,rfl,y,h3,.inr ⟨ha,h1⟩⟩
  ·cases h
 ·cases h
theorem zp4(hr:RH X)(hg:RGl P gl X)(he:EvR X e m){t:TypeId}{o:Operand}{p v:SV}(hp:e o=some p)(h:zor P gl X.sh t p=some v):∃ rs,mop P m X.h (.load t o)=some rs/\SRR X (.val v X.sh) rs:=by
 obtain⟨x,hx,hq⟩:=he _ _ hp
 obtain⟨loc,off,ver,lim,rfl,y,hy,⟨n,cs,h1,h2,h3,rfl⟩|⟨h1,h3⟩⟩:=ziP hr hg hq h
 ·exact⟨_,by simp only[mop,hx,h1,h2,h3],.same hr hy⟩
 ·exact⟨_,by simp only[mop,hx,h1,h3],.same hr hy⟩
def zmu(vs:List SV):Bool:=vs.all SV.one
theorem RVs.zmu{vs:List SV}{xs:List AV}(h:RVs X vs xs)(ho:zmu vs=true):xs.all AV.one=true:=by
 induction vs generalizing xs with
 |nil=>cases(show xs=[] from h);rfl
 |cons v vs ih=>
  obtain⟨x,t,rfl,h1,h2⟩:=h
  simp only[Sx.zmu,uf,ye] at ho
  simp only[uf,ye]
  exact⟨h1.one ho.1,ih h2 ho.2⟩
def zk3(h:SH)(vs:List SV):SV->Option SH
 |.ptr loc off lim=>match h[loc]?,yQ (off+vs.length) lim,zmu vs with
  |some (.cells l 0 mk),true,true=>some (h.set loc (.cells (l.take off++vs++l.drop (off+vs.length)) 0 mk))
  |_,_,_=>none
 |.zks loc k i fo=>match h[loc]? with
  |some (.seq u l k' 0)=>match yo k' k,yQ (fo+vs.length) u.sz,zmu vs with
   |true,true,true=>match dec u ((enc u (nth u l i)).take fo++vs++(enc u (nth u l i)).drop (fo+vs.length)) h with
    |some (x,[],h')=>match h'[loc]? with
     |some (.seq _ _ k2 0)=>match yo k2 k with
      |true=>some (h'.set loc (.seq u (l.set i x) k 0))
      |false=>none
     |_=>none
    |_=>none
   |_,_,_=>none
  |_=>none
 |_=>none
theorem wK{α:Type}{l:List α}{i:Nat}{x:α}(h:l[i]?=some x):l.set i x=l:=by
 refine yV fun j=>?_
 rw[vk]
 split
 ·subst j;rw[if_pos (yc.1 h).1,h]
 ·rfl
theorem RCs.set{h:zg}{Φ:Nat->Prop}{u:U}{l:List (El u)}{cs c:List AV}{i:Nat}{e:El u}(q:RCs h Φ u l cs)(hi:i<l.length)(hc:RE h Φ u e c):RCs h Φ u (l.set i e) (cs.take (i*u.sz)++c++cs.drop (i*u.sz+u.sz)):=by
 have hm:i*u.sz+u.sz<=l.length*u.sz:=by rw[<- yv];exact yj _ hi
 have hlen:=q.1
 have hcl:=hc.length
 refine⟨by rw[yN,yu,yu,yx,yD,hcl];omega,fun j e' hj=>?_⟩
 rcases qk hj with⟨rfl,rfl⟩|⟨hne,hj⟩
 ·rw[jE,yW,vl,yx,hlen,yw (by omega),yX (by rw[yx];omega),vo,yC,yO,yM (by omega),yA (by omega)]
  exact hc
 ·have hjl:=(yc.1 hj).1
  have h1:=q.2 j e' hj
  rw[jE] at h1 |-
  rcases Nat.lt_or_gt_of_ne hne with hlt|hgt
  ·have:j*u.sz+u.sz<=i*u.sz:=by rw[<- yv];exact yj _ hlt
   rw[yW,vF (by rw[yx];omega),yM (by rw[yD,yx];omega),yH,yI,yw (by omega)]
   exact h1
  ·have:i*u.sz+u.sz<=j*u.sz:=by rw[<- yv];exact yj _ hgt
   rw[vl,yX (by rw[yu,yx,hcl];omega),vo,yu,yx,hcl,yz,yw (by omega),show i*u.sz+u.sz+(j*u.sz-(i*u.sz+u.sz))=j*u.sz from by omega]
   exact h1
theorem zjj(hr:RH X){p:SV}{x:AV}{vs:List SV}{xs:List AV}{sh':SH}(hp:RV X p x)(hv:RVs X vs xs)(h:zk3 X.sh vs p=some sh'):
  ∃ loc off ver lim h',x=.ptr loc off ver lim/\wr X.h loc off ver lim xs=some h'/\∃ Y,Stp X Y/\Y.sh=sh'/\Y.h=h':=by
 unfold zk3 at h
 split at h
 ·split at h
  ·rename_i loc off lim _ _ _ l mk hb hle hones
   cases h
   have hle:=yk hle
   obtain⟨m,⟨v,hσ⟩,rfl⟩:=hp
   obtain⟨m',l',tt,e,h1,h2⟩:=hr.blk _ _ _ hb hσ
   cases e
   have hm:=hr.lt _ _ _ hσ
   have hxl:=hv.length
   have hk:(X.h.set m (.row (l'.take off++xs++l'.drop (off+xs.length)) 0 0 0 false (mk.or tt)))[m]?=some (.row (l'.take off++xs++l'.drop (off+xs.length)) 0 0 0 false (mk.or tt)):=Arr.qu hm
   refine⟨m,off,0,lim,X.h.set m (.row (l'.take off++xs++l'.drop (off+xs.length)) 0 0 0 false (mk.or tt)),rfl,?_,⟨X.h.set m (.row (l'.take off++xs++l'.drop (off+xs.length)) 0 0 0 false (mk.or tt)),X.Φ,X.σ,X.sh.set loc (.cells (l.take off++vs++l.drop (off+vs.length)) 0 mk)⟩,?_,rfl,rfl⟩
   ·unfold wr;rw[h1];simp only
    rw[if_pos ⟨trivial,vy _,by omega,hv.zmu hones⟩]
   ·refine Stp.turn hr hb hσ (by simp) (fun m' hm' hne=>Arr.zY fun e=>hne 0 (e ▸ rfl)) (fun _ _ _=>.inr rfl) (by show _<=(X.h.set _ _).length;rw[Arr.length_set];exact yb _)
     (fun m=>⟨.inl,fun h=>h.elim id fun h=>by cases h.1⟩) (wK hσ).symm rfl (fun m' v' e=>by cases e;exact⟨by show _<(X.h.set _ _).length;rw[Arr.length_set];exact hm,.inl ⟨_,rfl⟩⟩) (fun m v e=>⟨v,e⟩) (fun _ _ _ _ e=>by cases e)
     (fun h=>h) (fun h=>h.elim (fun h=>by cases h) fun h=>by cases h) fun hle'=>?_
    refine⟨m,_,tt,rfl,hk,?_⟩
    have hd:RVs X (l.drop (off+vs.length)) (l'.drop (off+xs.length)):=by rw[hxl];exact h2.drop _
    exact(((h2.le hle').take off).append (hv.le hle')).append (hd.le hle')
  ·cases h
 ·split at h
  ·rename_i loc k i fo _ u l k' hb
   split at h
   ·rename_i hk hle hones
    have hk:=zj hk
    subst hk
    have hle:=yk hle
    split at h
    ·rename_i y h1 hd
     split at h
     ·rename_i u2 l2 k2 hb2
      split at h
      ·rename_i hk2
       cases h
       have hk2:=zj hk2
       subst hk2
       obtain⟨hone,o,ho,hc⟩:=hp
       obtain⟨hi,m,ver,lim,rfl,rfl,hlim⟩:=(hc _ _ _ _ hb).2 rfl
       obtain⟨cells,minv,tt,q1,q2,q3,q4⟩:=hr.blk _ _ _ hb ho
       have hm:=hr.lt _ _ _ ho
       have hxl:=hv.length
       have hE:=zak (q3.2 i _ (zcA hi))
       have hR:RVs X ((enc u (nth u l i)).take fo++vs++(enc u (nth u l i)).drop (fo+vs.length)) ((part u.sz cells i).take fo++xs++(part u.sz cells i).drop (fo+vs.length)):=((hE.take _).append hv).append (hE.drop _)
       obtain⟨Y,c1,c2,S1,hh1,hs1,he1,hRE,hr2⟩:=zb0 u hr hR hd
       cases(show c2=[] from hr2)
       rw[vp] at he1
       subst he1
       rw[<- hs1] at hb2
       obtain⟨l',k'',md',e1,e2,e3⟩:=S1.le.seq loc u2 l2 k2 0 (yc.1 hb).1 hb2
       rw[hb] at e1
       cases e1
       obtain⟨e4,e5⟩:=e3 rfl
       have hσY:=e5.trans ho
       have hmi:i*u.sz+u.sz<=l.length*u.sz:=by rw[<- yv];exact yj _ hi
       have hcl:=q3.1
       have hlim':i*u.sz+fo+xs.length<=lim:=by rw[yv] at hlim;omega
       have hlist:cells.take (i*u.sz+fo)++xs++cells.drop (i*u.sz+fo+xs.length)=cells.take (i*u.sz)++((part u.sz cells i).take fo++xs++(part u.sz cells i).drop (fo+vs.length))++cells.drop (i*u.sz+u.sz):=by
        rw[jE,yI,yw (by omega),yH,yz,List.take_add]
        simp only[yW]
        refine congrArg _ (congrArg _ (congrArg _ ?_))
        rw[<- vu (u.sz-(fo+vs.length)) (cells.drop (i*u.sz+fo+xs.length)),yz,hxl,vA,vA]
        congr 2
        omega
       refine⟨m,i*u.sz+fo,ver,lim,X.h.set m (.row (cells.take (i*u.sz+fo)++xs++cells.drop (i*u.sz+fo+xs.length)) ver ver 0 false ((mkS k2).or tt)),rfl,?_,⟨X.h.set m (.row (cells.take (i*u.sz+fo)++xs++cells.drop (i*u.sz+fo+xs.length)) ver ver 0 false ((mkS k2).or tt)),Y.Φ,Y.σ,Y.sh.set loc (.seq u (l.set i y) k2 0)⟩,S1.trans ?_,by rw[<- hs1],rfl⟩
       ·unfold wr;rw[q1];simp only
        rw[if_pos ⟨trivial,vy _,hlim',hv.zmu hones⟩]
       ·refine Stp.turn S1.hr hb2 hσY (by simp) (fun m' hm' hne=>by rw[hh1];exact Arr.zY fun e=>hne ver (e ▸ rfl)) (fun _ _ _=>.inr rfl) (by show _<=(X.h.set _ _).length;rw[Arr.length_set,hh1];exact yb _)
         (fun m=>⟨.inl,fun h=>h.elim id fun h=>by cases h.1⟩) (wK hσY).symm rfl (fun m' v' e=>by cases e;exact⟨by show _<(X.h.set _ _).length;rw[Arr.length_set];exact hm,.inl ⟨_,rfl⟩⟩) (fun m v e=>⟨v,e⟩) (fun u3 l3 k3 md3 e=>by cases e;exact⟨l2,k2,0,rfl,yb _,fun _=>⟨by rw[yN];exact e4.symm,rfl⟩⟩)
         (fun h=>h) (fun h=>h.elim (fun h=>by cases h) fun h=>by cases h) fun hle'=>?_
        refine⟨_,ver,tt,Arr.qu hm,yb _,?_,fun e=>by cases e⟩
        have:=((q3.le S1.le.h S1.le.Φ).le hle'.h hle'.Φ).set hi (hRE.le hle'.h hle'.Φ)
        rwa [<- hlist] at this
      ·cases h
     ·cases h
    ·cases h
   ·cases h
  ·cases h
 ·cases h
end
end Go.Sx
namespace Go.Sx
open Go Go.Gx Go.Mx
variable [kF]
section
variable {P:Program} {gl:GL} {X:Gst} {e:Operand->Option SV} {m:Operand->Option AV}
def sb8(op:BinOp)(a b:UInt8):Option SV:=match op with
 |.add=>some (.u8 (a+b))
 |.sub=>some (.u8 (a-b))
 |.and=>some (.u8 (a &&& b))
 |.or=>some (.u8 (a ||| b))
 |.xor=>some (.u8 (a ^^^ b))
 |.andNot=>some (.u8 (a &&& ~~~b))
 |.lss=>some (.a (.bool (decide (a<b))))
 |.leq=>some (.a (.bool (decide (a<=b))))
 |.gtr=>some (.a (.bool (decide (b<a))))
 |.geq=>some (.a (.bool (decide (b<=a))))
 |.eql=>some (.a (.bool (a==b)))
 |.neq=>some (.a (.bool (a != b)))
 |_=>none
theorem zsW{op:BinOp}{a b:UInt8}{v:SV}(h:sb8 op a b=some v):∃ x,zxS op .u8 (a.toNat:Int) (b.toNat:Int)=some x/\RV X v x:=by
 unfold sb8 at h
 split at h<;>cases h
 ·exact⟨_,rfl,congrArg (AV.int .u8) (by rw[vm,UInt8.toNat_add];omega)⟩
 ·exact⟨_,rfl,by show _=_;congr 1;have:=a.toNat_lt;have:=b.toNat_lt;rw[vm,vY];omega⟩
 ·exact⟨_,rfl,by show _=_;congr 1;unfold zbu;simp only[vh,zAt];exact zm1 (a &&& b)⟩
 ·exact⟨_,rfl,by show _=_;congr 1;unfold zbu;simp only[vh,zAt];exact zm1 (a ||| b)⟩
 ·exact⟨_,rfl,by show _=_;congr 1;unfold zbu;simp only[vh,zAt];exact zm1 (a ^^^ b)⟩
 ·exact⟨_,rfl,by show _=_;congr 1;unfold zbu;simp only[vh,zAt];exact zm1 (a &&& ~~~ b)⟩
 ·exact⟨_,rfl,by show _=_;congr 1;simp [vO]⟩
 ·exact⟨_,rfl,by show _=_;congr 1;simp [vP]⟩
 ·exact⟨_,rfl,by show _=_;congr 1;simp [vO]⟩
 ·exact⟨_,rfl,by show _=_;congr 1;simp [vP]⟩
 ·exact⟨_,rfl,by show _=_;congr 1;exact u8c a b⟩
 ·exact⟨_,rfl,by show _=_;congr 1;rw[bne,bne,u8c]⟩
theorem zzV{a:UInt8}{n:Int}(hn:0<=n):zeC .shl .u8 (a.toNat:Int) n=some (.int .u8 ((zxW a n).toNat:Int)):=by
 unfold zeC
 rw[if_neg (by omega)]
 show some (AV.int .u8 (IntKind.u8.wrap _))=_
 rw[zi0];rfl
theorem zzW{a:UInt8}{n:Int}(hn:0<=n):zeC .shr .u8 (a.toNat:Int) n=some (.int .u8 ((zu1 a n).toNat:Int)):=by
 unfold zeC
 rw[if_neg (by omega)]
 have h1:Int.fdiv ((a.toNat:Nat):Int) (2 ^ min n.toNat (vh .u8))=((a.toNat/2 ^ (min n.toNat 8):Nat):Int):=by
  rw[show vh .u8=8 from rfl,Int.fdiv_eq_ediv_of_nonneg _ (Int.pow_nonneg (by decide))]
  push_cast
  rfl
 have h2:((zu1 a n).toNat:Int)=((a.toNat/2 ^ (min n.toNat 8):Nat):Int):=by
  have h3:a.toNat/2 ^ (min n.toNat 8)<256:=Nat.lt_of_le_of_lt (Nat.div_le_self _ _) a.toNat_lt
  unfold zu1
  generalize a.toNat/2 ^ (min n.toNat 8)=z at *
  rw[<- zi0,vm];omega
 show some (AV.int .u8 (Int.fdiv _ _))=_
 rw[h1,h2]
def zzu(f:Field->Option Bool):List Field->Option Bool
 | []=>some true
 |fd::l=>if fd.name ≠ "_" then match f fd,zzu f l with
   |some a,some b=>some (a&&b)
   |_,_=>none
  else zzu f l
theorem zqn{f g:Field->Option Bool}(hf:∀ x r,f x=some r->g x=some r){l:List Field}{r:Bool}(h:zzu f l=some r):zxR g l=some r:=by
 induction l generalizing r with
 |nil=>exact h
 |cons fd l ih=>
  unfold zzu at h
  unfold zxR
  split
  ·rename_i hn
   rw[if_pos hn] at h
   split at h
   ·rename_i a b h1 h2
    cases h
    rw[hf _ _ h1,ih h2]
    cases a<;>rfl
   ·cases h
  ·rename_i hn
   rw[if_neg hn] at h
   exact ih h
def zzx(P:Program):Nat->TypeId->AV->AV->Option Bool
 |0,_,_,_=>none
 |d+1,t,x,y=>match P.underlying t,x,y with
  |some (.struct fs),.agg xs,.agg ys=>if P.stoodInHeld t then none else zzu (fun f=>match zfU P f.type xs f.offset,zfU P f.type ys f.offset with|some a,some b=>zzx P d f.type a b|_,_=>none) fs.toList
  |_,_,_=>meq P (d+1) t x y
theorem zjX{d:Nat}:∀ {t:TypeId} {x y:AV} {r:Bool},zzx P d t x y=some r->meq P d t x y=some r:=by
 induction d with
 |zero=>intro t x y r h;cases h
 |succ d ih=>
  intro t x y r h
  unfold zzx at h
  split at h
  ·rename_i fs xs ys hu
   unfold meq
   rw[hu]
   simp only
   split at h
   ·cases h
   ·rename_i hs
    rw[if_neg hs]
    refine zqn (fun f r hf=>?_) h
    split at hf
    ·rename_i h1 h2;rw[h1,h2];exact ih hf
    ·cases hf
  ·exact h
def zxx(P:Program)(op:BinOp)(t:TypeId)(a b:AV):Option (Bool×AV):=
 match op,a,b with
 |.quo,.int k x,.int k' y=>if k=k' then some (y != 0,.int k (k.wrap (x.tdiv y))) else none
 |.rem,.int k x,.int k' y=>if k=k' then some (y != 0,.int k (x.tmod y)) else none
 |.shl,.int k x,.int _ y=>some (decide (0<=y),.int k (k.wrap (x*2 ^ (min y.toNat k.bits))))
 |.shr,.int k x,.int _ y=>some (decide (0<=y),.int k (x.fdiv (2 ^ (min y.toNat k.bits))))
 |.add,.str x,.str y=>some (decide (x.length+y.length<4611686018427387904),.str (x++y))
 |.eql,.agg xs,.agg ys=>match zzx P 8 t (.agg xs) (.agg ys) with
  |some r=>some (true,.bool r)
  |none=>none
 |.neq,.agg xs,.agg ys=>match zzx P 8 t (.agg xs) (.agg ys) with
  |some r=>some (true,.bool !r)
  |none=>none
 |op,a,b=>match zkT P op t a b with
  |some v=>some (true,v)
  |none=>none
theorem zoi{op:BinOp}{t:TypeId}{a b v:AV}(h:zxx P op t a b=some (true,v)):zkT P op t a b=some v:=by
 unfold zxx at h
 split at h
 ·split at h
  ·rename_i k x k' y hk
   simp only[yd,yh,bne_iff_ne] at h
   obtain⟨h1,rfl⟩:=h
   simp only[zkT,if_pos hk,zxS,if_neg h1]
  ·cases h
 ·split at h
  ·rename_i k x k' y hk
   simp only[yd,yh,bne_iff_ne] at h
   obtain⟨h1,rfl⟩:=h
   simp only[zkT,if_pos hk,zxS,if_neg h1]
  ·cases h
 ·simp only[yd,yh,decide_eq_true_eq] at h
  obtain⟨h1,rfl⟩:=h
  simp only[zkT,zeC]
  rw[if_neg (by omega)]
 ·simp only[yd,yh,decide_eq_true_eq] at h
  obtain⟨h1,rfl⟩:=h
  simp only[zkT,zeC]
  rw[if_neg (by omega)]
 ·simp only[yd,yh,decide_eq_true_eq] at h
  obtain⟨h1,rfl⟩:=h
  simp only[zkT,zAh]
  rw[if_pos h1]
 ·split at h
  ·rename_i r hr
   cases h
   simp only[zkT,zjX hr]
  ·cases h
 ·split at h
  ·rename_i r hr
   cases h
   simp only[zkT,zjX hr]
  ·cases h
 ·split at h
  ·cases h;assumption
  ·cases h
def zpg(P:Program)(t:TypeId)(a b:SV):Bool:=match P.underlying t,a,b with
 |some (.pointer _),.ptr ..,.a .zhy=>true
 |some (.pointer _),.zi2 ..,.a .zhy=>true
 |some (.pointer _),.zjA ..,.a .zhy=>true
 |some (.map _ _),.map ..,.a .zhx=>true
 |some (.map _ _),.zxP ..,.a .zhx=>true
 |some (.func _ _ _),.fn ..,.a .zlr=>true
 |some (.interface _),.ifc ..,.a .zer=>true
 |some (.slice _),.nsl ..,.a .qC=>true
 |_,_,_=>false
theorem zcr{t:TypeId}{a b:SV}{x y:AV}(h:zpg P t a b=true)(ha:RV X a x)(hb:RV X b y):meq P 8 t x y=some false/\meq P 8 t y x=some false/\(∀ op,zkT P op t x y=match op with|.eql=>(match meq P 8 t x y with|some r=>some (.bool r)|none=>none)|.neq=>(match meq P 8 t x y with|some r=>some (.bool !r)|none=>none)|_=>none) /\
  (∀ op,zkT P op t y x=match op with|.eql=>(match meq P 8 t y x with|some r=>some (.bool r)|none=>none)|.neq=>(match meq P 8 t y x with|some r=>some (.bool !r)|none=>none)|_=>none)/\∀ p q op,zeW P op t p q x y=true/\zeW P op t p q y x=true:=by
 unfold zpg at h
 split at h
 ·rename_i hu;obtain⟨m,_,rfl⟩:=ha;cases(show y=_ from hb)
  refine⟨by unfold meq;rw[hu],by unfold meq;rw[hu],fun op=>by cases op<;>rfl,fun op=>by cases op<;>rfl,fun p q op=>by cases op<;>exact⟨rfl,rfl⟩⟩
 ·rename_i hu;obtain⟨m,off,ver,lim,cs,rfl,_⟩:=ha;cases(show y=_ from hb)
  refine⟨by unfold meq;rw[hu],by unfold meq;rw[hu],fun op=>by cases op<;>rfl,fun op=>by cases op<;>rfl,fun p q op=>by cases op<;>exact⟨rfl,rfl⟩⟩
 ·rename_i hu;cases(show x=_ from ha);cases(show y=_ from hb)
  refine⟨by unfold meq;rw[hu],by unfold meq;rw[hu],fun op=>by cases op<;>rfl,fun op=>by cases op<;>rfl,fun p q op=>by cases op<;>exact⟨rfl,rfl⟩⟩
 ·rename_i hu;obtain⟨m,_,rfl⟩:=ha;cases(show y=_ from hb)
  refine⟨by unfold meq;rw[hu],by unfold meq;rw[hu],fun op=>by cases op<;>rfl,fun op=>by cases op<;>rfl,fun p q op=>by cases op<;>exact⟨rfl,rfl⟩⟩
 ·rename_i hu;obtain⟨m,es,rfl,_⟩:=ha;cases(show y=_ from hb)
  refine⟨by unfold meq;rw[hu],by unfold meq;rw[hu],fun op=>by cases op<;>rfl,fun op=>by cases op<;>rfl,fun p q op=>by cases op<;>exact⟨rfl,rfl⟩⟩
 ·rename_i hu;obtain⟨m,es,rfl,_⟩:=ha;cases(show y=_ from hb)
  refine⟨by unfold meq;rw[hu],by unfold meq;rw[hu],fun op=>by cases op<;>rfl,fun op=>by cases op<;>rfl,fun p q op=>by cases op<;>exact⟨rfl,rfl⟩⟩
 ·rename_i hu;obtain⟨m,rfl,_⟩:=ha;cases(show y=_ from hb)
  refine⟨by unfold meq;rw[hu],by unfold meq;rw[hu],fun op=>by cases op<;>rfl,fun op=>by cases op<;>rfl,fun p q op=>by cases op<;>exact⟨rfl,rfl⟩⟩
 ·rename_i hu;obtain⟨m,off,ver,c',cs,rfl,_⟩:=ha;cases(show y=_ from hb)
  refine⟨by unfold meq;rw[hu],by unfold meq;rw[hu],fun op=>by cases op<;>rfl,fun op=>by cases op<;>rfl,fun p q op=>by cases op<;>exact⟨rfl,rfl⟩⟩
 ·cases h
def ptrEq(P:Program)(t:TypeId)(a b:SV):Option Bool:=match P.underlying t,a,b with
 |some (.pointer e),.ptr l o _,.ptr l' o' _=>match yo l l'&&wide P e with
  |true=>some (o==o')
  |false=>none
 |_,_,_=>none
theorem ziC{t:TypeId}{a b:SV}{x y:AV}{r:Bool}(h:ptrEq P t a b=some r)(ha:RV X a x)(hb:RV X b y):zkT P .eql t x y=some (.bool r)/\zkT P .neq t x y=some (.bool !r)/\∀ p q op,zeW P op t p q x y=true:=by
 unfold ptrEq at h
 split at h
 ·rename_i e l o _ l' o' _ hu
  split at h
  ·rename_i hc
   cases h
   simp only[ye] at hc
   obtain⟨h1,h2⟩:=hc
   cases yK h1
   obtain⟨m,⟨v,q1⟩,rfl⟩:=ha
   obtain⟨m',⟨v',q2⟩,rfl⟩:=hb
   rw[q1] at q2;cases q2
   have hm:∀ a b,meq P 8 t (.ptr m o 0 a) (.ptr m o' 0 b)=some (o==o'):=fun a b=>by unfold meq;rw[hu];simp only;rw[if_pos ⟨trivial,trivial,h2⟩]
   exact⟨by simp only[zkT,hm],by simp only[zkT,hm],fun p q op=>by cases op<;>rfl⟩
  ·cases h
 ·cases h
def zAm(P:Program)(op:BinOp)(t:TypeId)(x y:Operand)(a b:SV):Option (Bool×SV):=match a,b with
 |.u8 a,.u8 b=>match op with
  |.shl=>some (true,.u8 (zxW a (b.toNat:Int)))
  |.shr=>some (true,.u8 (zu1 a (b.toNat:Int)))
  |op=>(sb8 op a b).map (true,·)
 |.u8 a,.a (.int _ n)=>match op with
  |.shl=>some (decide (0<=n),.u8 (zxW a n))
  |.shr=>some (decide (0<=n),.u8 (zu1 a n))
  |_=>none
 |a,b=>match zAs a,zAs b with
  |some p,some q=>match zeW P op t x y p q,zxx P op t p q with
   |true,some (g,v)=>(ofA v).map (g,·)
   |_,_=>none
  |_,_=>match op,zpg P t a b||zpg P t b a with
   |.eql,true=>some (true,.a (.bool false))
   |.neq,true=>some (true,.a (.bool true))
   |_,true=>none
   |op,false=>match op,ptrEq P t a b with
    |.eql,some r=>some (true,.a (.bool r))
    |.neq,some r=>some (true,.a (.bool !r))
    |_,_=>none
theorem zqq{op:BinOp}{t:TypeId}{x y:Operand}{a b v:SV}{p q:AV}(h:zAm P op t x y a b=some (true,v))(ha:RV X a p)(hb:RV X b q):zeW P op t x y p q=true/\∃ w,zkT P op t p q=some w/\RV X v w:=by
 unfold zAm at h
 split at h
 ·cases(show p=_ from ha);cases(show q=_ from hb)
  refine⟨by cases op<;>rfl,?_⟩
  split at h
  ·cases h;exact⟨_,zzV (by omega),rfl⟩
  ·cases h;exact⟨_,zzW (by omega),rfl⟩
  ·rename_i a b op' h1 h2
   cases q:sb8 op a b with
   |none=>rw[q] at h;cases h
   |some v'=>
    rw[q] at h;cases h
    obtain⟨w,h3,h4⟩:=zsW (X:=X) q
    refine⟨w,?_,h4⟩
    cases op<;>first|exact h3|contradiction|cases h3
 ·cases(show p=_ from ha);cases(show q=_ from hb)
  split at h
  ·simp only[yd,yh,decide_eq_true_eq] at h
   obtain⟨h1,rfl⟩:=h
   exact⟨rfl,_,zzV h1,rfl⟩
  ·simp only[yd,yh,decide_eq_true_eq] at h
   obtain⟨h1,rfl⟩:=h
   exact⟨rfl,_,zzW h1,rfl⟩
  ·cases h
 ·split at h
  ·rename_i p' q' h1 h2
   cases zj7 h1 ha
   cases zj7 h2 hb
   split at h
   ·rename_i g v' h3 h4
    cases h5:ofA v' with
    |none=>rw[h5] at h;cases h
    |some v2=>rw[h5] at h;cases h;exact⟨h3,v',zoi h4,zfX h5⟩
   ·cases h
  ·split at h
   ·rename_i hn
    cases h
    rcases vG _ _ ▸ hn with hn|hn
    ·obtain⟨h1,h2,h3,h4,h5⟩:=zcr hn ha hb
     exact⟨(h5 _ _ _).1,.bool false,(h3 _).trans (by simp only[h1]),rfl⟩
    ·obtain⟨h1,h2,h3,h4,h5⟩:=zcr hn hb ha
     exact⟨(h5 _ _ _).2,.bool false,(h4 _).trans (by simp only[h2]),rfl⟩
   ·rename_i hn
    cases h
    rcases vG _ _ ▸ hn with hn|hn
    ·obtain⟨h1,h2,h3,h4,h5⟩:=zcr hn ha hb
     exact⟨(h5 _ _ _).1,.bool true,(h3 _).trans (by simp only[h1];rfl),rfl⟩
    ·obtain⟨h1,h2,h3,h4,h5⟩:=zcr hn hb ha
     exact⟨(h5 _ _ _).2,.bool true,(h4 _).trans (by simp only[h2];rfl),rfl⟩
   ·cases h
   ·split at h
    ·rename_i r hp
     cases h
     obtain⟨h1,h2,h3⟩:=ziC hp ha hb
     exact⟨h3 _ _ _,_,h1,rfl⟩
    ·rename_i r hp
     cases h
     obtain⟨h1,h2,h3⟩:=ziC hp ha hb
     exact⟨h3 _ _ _,_,h2,rfl⟩
    ·cases h
theorem zqU(hr:RH X)(he:EvR X e m){op:BinOp}{t t':TypeId}{x y:Operand}{a b v:SV}(ha:e x=some a)(hb:e y=some b)(h:zAm P op t x y a b=some (true,v)):∃ rs,mop P m X.h (.binOp op t x y t')=some rs/\SRR X (.val v X.sh) rs:=by
 obtain⟨p,h1,h2⟩:=he _ _ ha
 obtain⟨q,h3,h4⟩:=he _ _ hb
 obtain⟨hg,w,h5,h6⟩:=zqq h h2 h4
 exact⟨_,by simp only[mop,h1,h3,if_pos hg,h5,rv],.same hr h6⟩
def sun(u:UnOp):SV->Option SV
 |.a (.int k x)=>match u with
  |.neg=>some (.a (.int k (k.wrap (0-x))))
  |.xor=>some (.a (.int k (zbu .xor k (if k.signed then -1 else k.max) x)))
  |_=>none
 |.u8 b=>match u with
  |.neg=>some (.u8 (0-b))
  |_=>none
 |.a (.bool b)=>match u with
  |.not=>some (.a (.bool !b))
  |_=>none
 |_=>none
theorem zvj(hr:RH X)(he:EvR X e m){u:UnOp}{t:TypeId}{x:Operand}{a v:SV}(ha:e x=some a)(h:sun u a=some v):∃ rs,mop P m X.h (.unOp u t x)=some rs/\SRR X (.val v X.sh) rs:=by
 obtain⟨p,h1,h2⟩:=he _ _ ha
 unfold sun at h
 split at h
 ·cases(show p=_ from h2)
  split at h<;>cases h
  ·exact⟨_,by simp only[mop,h1],.same hr rfl⟩
  ·exact⟨_,by simp only[mop,h1],.same hr rfl⟩
 ·cases(show p=_ from h2)
  split at h<;>cases h
  rename_i b _
  refine⟨.val (.int .u8 (IntKind.u8.wrap (0-(b.toNat:Int)))) X.h,by simp only[mop,h1],.same hr ?_⟩
  show _=_
  refine congrArg (AV.int .u8) ?_
  have:=b.toNat_lt
  rw[vm,vY]
  have:(0:UInt8).toNat=0:=rfl
  omega
 ·cases(show p=_ from h2)
  split at h<;>cases h
  exact⟨_,by simp only[mop,h1],.same hr rfl⟩
 ·cases h
end
end Go.Sx
namespace Go.Sx
open Go Go.Gx Go.Mx
variable [kF]
section
variable {P:Program} {gl:GL} {X:Gst} {e:Operand->Option SV} {m:Operand->Option AV}
theorem zp8(hr:RH X)(he:EvR X e m){x:Operand}{v:SV}(h:e x=some v):∃ rs,mop P m X.h (.move x)=some rs/\SRR X (.val v X.sh) rs:=by
 obtain⟨p,h1,h2⟩:=he _ _ h
 exact⟨_,by simp only[mop,h1,rv],.same hr h2⟩
theorem zlz(hr:RH X)(he:EvR X e m){x:Operand}{v:SV}(h:e x=some v):∃ rs,mop P m X.h (.assign x)=some rs/\SRR X (.val v X.sh) rs:=by
 obtain⟨p,h1,h2⟩:=he _ _ h
 exact⟨_,by simp only[mop,h1,rv],.same hr h2⟩
def zxB(c:Bool)(x y:SV)(h:SH):zlv:=match x,y with
 |.a (.bool x),.a (.bool y)=>one true (.a (.bool (cond c x y))) h
 |x,y=>[(c,.val x h),(!c,.val y h)]
theorem zqf(hr:RH X)(he:EvR X e m){oc ox oy:Operand}{c:Bool}{x y:SV}{q:SR}(hc:e oc=some (.a (.bool c)))(hx:e ox=some x)(hy:e oy=some y)(h:Hit (zxB c x y X.sh) q):∃ rs,mop P m X.h (.pick oc ox oy)=some rs/\SRR X q rs:=by
 obtain⟨pc,h1,h2⟩:=he _ _ hc
 cases(show pc=_ from h2)
 obtain⟨px,h3,h4⟩:=he _ _ hx
 obtain⟨py,h5,h6⟩:=he _ _ hy
 have key:∀ v,(c=true->v=x)->(c=false->v=y)->∃ rs,mop P m X.h (.pick oc ox oy)=some rs/\SRR X (.val v X.sh) rs:=by
  intro v hT hF
  cases c with
  |true=>exact⟨_,by simp only[mop,h1,h3,rv],.same hr (hT rfl ▸ h4)⟩
  |false=>exact⟨_,by simp only[mop,h1,h5,rv],.same hr (hF rfl ▸ h6)⟩
 unfold zxB at h
 split at h
 ·obtain⟨_,rfl⟩:=xN h
  exact key _ (fun e=>by rw[e];rfl) (fun e=>by rw[e];rfl)
 ·rcases h with⟨rfl,rfl⟩|⟨rfl,⟨_,rfl⟩|⟨_,h⟩⟩
  ·exact key _ (fun _=>rfl) (fun e=>by cases e)
  ·exact key _ (fun e=>by cases e) (fun _=>rfl)
  ·cases h
def SV.whole(v:SV):Bool:=match v with
 |.agg _=>true
 |v=>v.one
theorem RV.ziW{v:SV}{x:AV}(h:RV X v x)(ho:v.whole=true):RVs X v.cells x.cells:=by
 refine h.cells ?_
 cases v<;>first|exact .inr ⟨_,rfl⟩|exact .inl ho
def ziQ(e:Operand->Option SV):List (Nat×Operand)->Option (List (Nat×SV))
 | []=>some []
 |(i,x)::l=>match e x,ziQ e l with
  |some v,some vs=>some ((i,v)::vs)
  |_,_=>none
def RPs(X:Gst):List (Nat×SV)->List (Nat×AV)->Prop
 | [],l=>l=[]
 |p::ps,l=>∃ x xs,l=(p.1,x)::xs/\RV X p.2 x/\RPs X ps xs
theorem zg9(he:EvR X e m){l:List (Nat×Operand)}{ps:List (Nat×SV)}(h:ziQ e l=some ps):∃ qs,zcU m l=some qs/\RPs X ps qs:=by
 induction l generalizing ps with
 |nil=>cases h;exact⟨[],rfl,rfl⟩
 |cons p l ih=>
  obtain⟨i,o⟩:=p
  simp only[ziQ] at h
  split at h
  ·rename_i v vs h1 h2
   cases h
   obtain⟨x,h3,h4⟩:=he _ _ h1
   obtain⟨xs,h5,h6⟩:=ih h2
   exact⟨_,by simp only[zcU,h3,h5],x,xs,rfl,h4,h6⟩
  ·cases h
def zoo(place:Nat->Option (Nat×Nat))(cells:List SV):List (Nat×SV)->Option (List SV)
 | []=>some cells
 |(i,v)::rest=>match place i with
  |none=>none
  |some (off,size)=>match yo v.cells.length size&&yQ (off+size) cells.length&&v.whole with
   |true=>zoo place (cells.take off++v.cells++cells.drop (off+size)) rest
   |false=>none
theorem zdr{place:Nat->Option (Nat×Nat)}{ps:List (Nat×SV)}:∀ {cs r:List SV} {xs:List AV} {qs:List (Nat×AV)},RVs X cs xs->RPs X ps qs->zoo place cs ps=some r->∃ r',zjf place xs qs=some r'/\RVs X r r':=by
 induction ps with
 |nil=>intro cs r xs qs hc hp h;cases h;cases(show qs=[] from hp);exact⟨xs,rfl,hc⟩
 |cons p ps ih=>
  intro cs r xs qs hc hp h
  obtain⟨i,v⟩:=p
  obtain⟨x,qs',rfl,h1,h2⟩:=hp
  simp only[zoo] at h
  split at h
  ·cases h
  ·rename_i off size hpl
   split at h
   ·rename_i hb
    simp only[ye] at hb
    have h3:v.cells.length=size:=zj hb.1.1
    have h4:off+size<=cs.length:=yk hb.1.2
    have hv:=h1.ziW hb.2
    have hl:=hv.length
    obtain⟨r',h5,h6⟩:=ih (((hc.take off).append hv).append (hc.drop (off+size))) h2 h
    refine⟨r',?_,h6⟩
    simp only[zjf,hpl]
    rw[if_pos ⟨hl.trans h3,by rw[hc.length];exact h4⟩]
    exact h5
   ·cases h
def ziS(P:Program)(t:TypeId):Option SV:=match zeroOf P t with
 |some z=>zAi z
 |none=>none
theorem kf{t:TypeId}{z:SV}(h:ziS P t=some z):∃ x,zeroOf P t=some x/\RV X z x:=by
 unfold ziS at h
 split at h
 ·rename_i x hx;exact⟨x,hx,zjN h⟩
 ·cases h
def zsX(P:Program)(t:TypeId)(parts:List (Nat×SV)):Option SV:=
 match ziS P t,P.underlying t with
 |some z,some (.struct fs)=>match ziz P fs.toList,z.whole with
  |some ps,true=>match zoo (ps[·]?) z.cells parts with|some cs=>some (.agg cs)|none=>none
  |_,_=>none
 |some z,some (.array _ el)=>match zcC P el,z.whole with
  |some n,true=>match zoo (fun i=>some (i*n,n)) z.cells parts with|some cs=>some (.agg cs)|none=>none
  |_,_=>none
 |_,_=>none
theorem zni(hr:RH X)(he:EvR X e m){t:TypeId}{parts:Array (Nat×Operand)}{ps:List (Nat×SV)}{v:SV}(hp:ziQ e parts.toList=some ps)(h:zsX P t ps=some v):∃ rs,mop P m X.h (.build t parts)=some rs/\SRR X (.val v X.sh) rs:=by
 obtain⟨qs,h1,h2⟩:=zg9 he hp
 unfold zsX at h
 split at h
 ·rename_i z fs hz hu
  obtain⟨x,h3,h4⟩:=kf (X:=X) hz
  split at h
  ·rename_i pl hpl hw
   split at h
   ·rename_i cs hcs
    cases h
    obtain⟨r',h5,h6⟩:=zdr (h4.ziW hw) h2 hcs
    exact⟨_,by simp only[mop,h1,zpb,h3,hu,hpl,h5,rv],.same hr ⟨r',rfl,h6⟩⟩
   ·cases h
  ·cases h
 ·rename_i z k el hz hu
  obtain⟨x,h3,h4⟩:=kf (X:=X) hz
  split at h
  ·rename_i n hn hw
   split at h
   ·rename_i cs hcs
    cases h
    obtain⟨r',h5,h6⟩:=zdr (h4.ziW hw) h2 hcs
    exact⟨_,by simp only[mop,h1,zpb,h3,hu,hn,h5,rv],.same hr ⟨r',rfl,h6⟩⟩
   ·cases h
  ·cases h
 ·cases h
def zxA(P:Program)(t:TypeId)(cs:List SV)(off:Nat):Option SV:=
 match zlp P t,zcC P t with
 |some true,some n=>some (.agg ((cs.drop off).take n))
 |some false,_=>cs[off]?
 |_,_=>none
theorem zou{t:TypeId}{cs:List SV}{xs:List AV}{off:Nat}{v:SV}(hc:RVs X cs xs)(h:zxA P t cs off=some v):∃ x,zfU P t xs off=some x/\RV X v x:=by
 unfold zxA at h
 unfold zfU
 split at h
 ·rename_i n ha hs
  cases h
  rw[ha,hs]
  exact⟨_,rfl,_,rfl,(hc.drop off).take n⟩
 ·rename_i ha
  rw[ha]
  obtain⟨x,h1,h2⟩:=hc.get h
  exact⟨x,by simpa using h1,h2⟩
 ·cases h
def zs3(P:Program)(t:TypeId)(v:SV)(f:Nat):Option SV:=match P.underlying t,v with
 |some (.struct fs),.agg cs=>match fs[f]? with
  |some fd=>zxA P fd.type cs fd.offset
  |none=>none
 |_,_=>none
theorem zny(hr:RH X)(he:EvR X e m){t:TypeId}{x:Operand}{f:Nat}{a v:SV}(hx:e x=some a)(h:zs3 P t a f=some v):∃ rs,mop P m X.h (.field t x f)=some rs/\SRR X (.val v X.sh) rs:=by
 obtain⟨p,h1,h2⟩:=he _ _ hx
 unfold zs3 at h
 split at h
 ·rename_i fs cs hu
  obtain⟨xs,rfl,h3⟩:=h2
  split at h
  ·rename_i fd hf
   obtain⟨y,h4,h5⟩:=zou (P:=P) h3 h
   exact⟨_,by simp only[mop,hu,h1,hf,h4,rv],.same hr h5⟩
  ·cases h
 ·cases h
theorem zkv(hr:RH X)(he:EvR X e m){x:Operand}{i:Nat}{l:List SV}{v:SV}(hx:e x=some (.tup l))(h:l[i]?=some v):∃ rs,mop P m X.h (.extract x i)=some rs/\SRR X (.val v X.sh) rs:=by
 obtain⟨p,h1,xs,rfl,h2⟩:=he _ _ hx
 obtain⟨y,h3,h4⟩:=h2.get h
 exact⟨_,by simp only[mop,h1,h3,rv],.same hr h4⟩
def zxg:SV->Bool
 |.ptr ..=>true
 |.zi2 ..=>true
 |.zjA ..=>true
 |.fn ..=>true
 |.ifc ..=>true
 |_=>false
theorem zjh(hr:RH X)(he:EvR X e m){x:Operand}{v:SV}(hx:e x=some v)(h:zxg v=true):∃ rs,mop P m X.h (.nilCheck x)=some rs/\SRR X (.val v X.sh) rs:=by
 obtain⟨p,h1,h2⟩:=he _ _ hx
 unfold zxg at h
 split at h
 ·have h3:=h2;obtain⟨_,_,rfl⟩:=h2;exact⟨_,by simp only[mop,h1],.same hr h3⟩
 ·have h3:=h2;obtain⟨_,_,_,_,_,rfl,_⟩:=h2;exact⟨_,by simp only[mop,h1],.same hr h3⟩
 ·have h3:=h2;cases(show p=_ from h2);exact⟨_,by simp only[mop,h1],.same hr h3⟩
 ·have h3:=h2;obtain⟨_,_,rfl,_⟩:=h2;exact⟨_,by simp only[mop,h1],.same hr h3⟩
 ·have h3:=h2;obtain⟨_,rfl,_⟩:=h2;exact⟨_,by simp only[mop,h1],.same hr h3⟩
 ·cases h
def isIface(P:Program)(t:TypeId):Bool:=match P.underlying t with
 |some (.interface _)=>true
 |none=>true
 |_=>false
theorem ze2(hr:RH X)(he:EvR X e m){t:TypeId}{x:Operand}{v:SV}(hx:e x=some v)(h:isIface P t=false):∃ rs,mop P m X.h (.makeInterface t x)=some rs/\SRR X (.val (.ifc t v) X.sh) rs:=by
 obtain⟨p,h1,h2⟩:=he _ _ hx
 refine⟨.val (.ifc t p) X.h,?_,.same hr ⟨p,rfl,h2⟩⟩
 unfold isIface at h
 cases hu:P.underlying t with
 |none=>rw[hu] at h;cases h
 |some d=>rw[hu] at h;cases d<;>first|(cases h;done)|simp only[mop,h1,hu]
theorem zjd(hr:RH X)(he:EvR X e m){f:FuncId}{first cap:Array Operand}{a b:List SV}(ha:ztJ e first.toList=some a)(hb:ztJ e cap.toList=some b):∃ rs,mop P m X.h (.makeFunc (.func f) first cap)=some rs/\SRR X (.val (.fn f a b) X.sh) rs:=by
 obtain⟨xa,h1,h2⟩:=zbF he ha
 obtain⟨xb,h3,h4⟩:=zbF he hb
 exact⟨_,by simp only[mop,h1,h3],.same hr ⟨_,_,rfl,h2,h4⟩⟩
def zet(P:Program)(s:TypeId)(v:SV)(f:Nat)(h:SH):Option SV:=
 match P.underlying s with
 |some (.struct fs)=>match fs[f]? with
  |some fd=>match zcC P fd.type with
   |some (_+1)=>match v with
    |.ptr loc off lim=>some (.ptr loc (off+fd.offset) lim)
    |.zks loc n i fo=>match h[loc]? with
     |some (.seq _ _ k _)=>match yo k n with
      |true=>some (.zks loc n i (fo+fd.offset))
      |false=>none
     |_=>none
    |.zi2 u y fo=>some (.zi2 u y (fo+fd.offset))
    |.zjA g off lim=>some (.zjA g (off+fd.offset) lim)
    |_=>none
   |_=>none
  |none=>none
 |_=>none
theorem zhD{s:TypeId}{f:Nat}{a v:SV}{x:AV}(ha:RV X a x)(h:zet P s a f X.sh=some v):∃ y,zcT P s x f=some y/\RV X v y:=by
 unfold zet at h
 split at h
 ·rename_i fs hu
  split at h
  ·rename_i fd hf
   split at h
   ·rename_i z hz
    have hk:∀ loc off ver lim,zcT P s (.ptr loc off ver lim) f=some (.ptr loc (off+fd.offset) ver lim):=fun _ _ _ _=>by simp only[zcT,hu,hf,hz]
    split at h
    ·cases h;obtain⟨m,h1,rfl⟩:=ha;exact⟨_,hk _ _ _ _,m,h1,rfl⟩
    ·split at h
     ·rename_i loc n i fo _ u l k md hb
      split at h
      ·rename_i hkn
       have hkn:=zj hkn
       subst hkn
       cases h
       obtain⟨hone,o,ho,hc⟩:=ha
       obtain⟨hi,m,ver,lim,rfl,rfl,hlim⟩:=(hc _ _ _ _ hb).2 rfl
       refine⟨_,hk _ _ _ _,rfl,some (m,ver),ho,fun u' l' k' md' hb'=>?_⟩
       rw[hb] at hb';cases hb'
       exact⟨yb _,fun _=>⟨hi,m,ver,lim,rfl,by rw[vA],hlim⟩⟩
      ·cases h
     ·cases h
    ·cases h;obtain⟨m,off,ver,lim,cs,rfl,h1⟩:=ha;exact⟨_,hk _ _ _ _,m,off,ver,lim,cs,by rw[vA],h1⟩
    ·cases h;cases(show x=_ from ha);exact⟨_,hk _ _ _ _,rfl⟩
    ·cases h
   ·cases h
  ·cases h
 ·cases h
theorem zif(hr:RH X)(he:EvR X e m){s:TypeId}{x:Operand}{f:Nat}{a v:SV}(hx:e x=some a)(h:zet P s a f X.sh=some v):∃ rs,mop P m X.h (.fieldAddr s x f)=some rs/\SRR X (.val v X.sh) rs:=by
 obtain⟨p,h1,h2⟩:=he _ _ hx
 obtain⟨y,h3,h4⟩:=zhD h2 h
 exact⟨_,by simp only[mop,h1,h3,rv],.same hr h4⟩
def inb(i:Int)(len:Nat):Bool:=decide (0<=i)&&decide (i<len)
theorem kU{i:Int}{len:Nat}(h:inb i len=true):0<=i/\i<len/\i.toNat<len:=by
 unfold inb at h;simp only[ye,decide_eq_true_eq] at h;omega
def zv6:SV->Option Int
 |.a (.int _ n)=>some n
 |.u8 b=>some (b.toNat:Int)
 |_=>none
theorem zeu{v:SV}{x:AV}{n:Int}(h:zv6 v=some n)(hv:RV X v x):∃ k,x=.int k n:=by
 unfold zv6 at h
 split at h
 ·cases h;cases(show x=_ from hv);exact⟨_,rfl⟩
 ·cases h;cases(show x=_ from hv);exact⟨_,rfl⟩
 ·cases h
def zlJ(P:Program)(t:TypeId)(n:Nat):Bool:=match P.underlying t with
 |some (.slice e)=>match zcC P e with
  |some z=>yo z n
  |none=>false
 |_=>false
theorem zhL{t:TypeId}{n:Nat}(h:zlJ P t n=true):∃ el,P.underlying t=some (.slice el)/\zcC P el=some n:=by
 unfold zlJ at h
 split at h
 ·rename_i el hu
  split at h
  ·rename_i z hz;exact⟨el,hu,by rw[hz,zj h]⟩
  ·cases h
 ·cases h
def zc1(P:Program)(t:TypeId)(x:SV)(i:Int)(h:SH):Option (Bool×SV):=
 match x with
 |.isl u l=>match zlJ P t u.sz with
  |true=>some (inb i l.length,.zi2 u (nth u l i.toNat) 0)
  |false=>none
 |.cl u l=>match zlJ P t u.sz with
  |true=>some (inb i l.length,.zi2 u (nth u l i.toNat) 0)
  |false=>none
 |.gs loc n=>match h[loc]? with
  |some (.seq u l k _)=>match yo k n,zlJ P t u.sz with
   |true,true=>some (inb i l.length,.zks loc n i.toNat 0)
   |_,_=>none
  |_=>none
 |.sl loc n off len _=>match h[loc]? with
  |some (.seq u l k _)=>match yo k n,zlJ P t u.sz with
   |true,true=>some (inb i len,.zks loc n (off+i.toNat) 0)
   |_,_=>none
  |_=>none
 |.zpK loc n len=>match h[loc]? with
  |some (.seq u l k _)=>match P.underlying t with
   |some (.array len' e)=>match zcC P e with
    |some z=>match yo k n,yo z u.sz,yo len' len with
     |true,true,true=>some (inb i len,.zks loc n i.toNat 0)
     |_,_,_=>none
    |none=>none
   |_=>none
  |_=>none
 |.csl loc off n sz=>match zlJ P t sz with
  |true=>some (inb i n,.ptr loc (off+i.toNat*sz) (off+n*sz))
  |false=>none
 |.ptr loc off lim=>match P.underlying t with
  |some (.array len e)=>match zcC P e with
   |some z=>some (inb i len,.ptr loc (off+i.toNat*z) lim)
   |none=>none
  |_=>none
 |.zjA g off lim=>match P.underlying t with
  |some (.array len e)=>match zcC P e with
   |some z=>some (inb i len,.zjA g (off+i.toNat*z) lim)
   |none=>none
  |_=>none
 |_=>none
theorem zfJ{t:TypeId}{n:Nat}(hz:zlJ P t n=true){loc off len ver:Nat}{c:Bool}{k:IntKind}{i:Int}(hi:inb i len=true):jN P t (.sl loc off len n ver c) (.int k i)=some (.ptr loc (off+i.toNat*n) ver (off+len*n)):=by
 obtain⟨el,hu,hs⟩:=zhL hz
 obtain⟨h1,h2,h3⟩:=kU hi
 simp only[jN,hu,hs]
 rw[if_pos ⟨trivial,h1,h2⟩]
theorem zru{t:TypeId}{u:U}{l:List (El u)}{c:Bool}{x:AV}{k:IntKind}{i:Int}(hv:RSl X.h X.Φ c u l x)(hz:zlJ P t u.sz=true)(hi:inb i l.length=true):∃ y,jN P t x (.int k i)=some y/\RV X (.zi2 u (nth u l i.toNat) 0) y:=by
 obtain⟨h1,h2,h3⟩:=kU hi
 rcases hv with⟨rfl,_⟩|⟨m,off,ver,c',cs,rfl,q0,q1,q2,q3⟩
 ·simp at h3
 ·refine⟨_,zfJ hz hi,m,off+i.toNat*u.sz,ver,off+l.length*u.sz,part u.sz cs i.toNat,by rw[yJ],q1,?_,⟨off+l.length*u.sz,?_⟩,?_,?_⟩
  ·have:i.toNat*u.sz+u.sz<=l.length*u.sz:=by rw[<- yv];exact yj _ h3
   omega
  ·have hm:i.toNat*u.sz+u.sz<=l.length*u.sz:=by rw[<- yv];exact yj _ h3
   unfold rd at q2 |-
   split at q2
   ·split at q2
    ·rename_i hc
     cases q2
     rw[if_pos ⟨hc.1,by omega⟩,jE,yH,yz,yI,yw (by omega)]
    ·cases q2
   ·split at q2
    ·cases q2
     rw[if_pos (by omega),jE,yH,yz,yI,yw (by omega)]
    ·cases q2
   ·cases q2
  ·exact(q3.2 _ _ (zcA h3)).length
  ·exact q3.2 _ _ (zcA h3)
theorem zhE(hr:RH X){t:TypeId}{a v:SV}{x:AV}{k:IntKind}{i:Int}(ha:RV X a x)(h:zc1 P t a i X.sh=some (true,v)):∃ y,jN P t x (.int k i)=some y/\RV X v y:=by
 unfold zc1 at h
 split at h
 ·split at h
  ·rename_i hz;simp only[yd,yh] at h;obtain⟨hi,rfl⟩:=h;exact zru ha hz hi
  ·cases h
 ·split at h
  ·rename_i hz;simp only[yd,yh] at h;obtain⟨hi,rfl⟩:=h;exact zru ha.1 hz hi
  ·cases h
 ·split at h
  ·rename_i loc n _ u l k' md hb
   split at h
   ·rename_i hk hz
    simp only[yd,yh] at h;obtain⟨hi,rfl⟩:=h
    have hk:=zj hk
    subst hk
    obtain⟨h1,h2,h3⟩:=kU hi
    obtain⟨hone,o,ho,hc⟩:=ha
    have hQ:=(hc _ _ _ _ hb).2 rfl
    cases o with
    |none=>obtain⟨_,hl⟩:=hQ;omega
    |some p=>
     obtain⟨m,ver⟩:=p
     cases(show x=_ from hQ)
     refine⟨_,zfJ hz hi,rfl,some (m,ver),ho,fun u' l' k' md' hb'=>?_⟩
     rw[hb] at hb';cases hb'
     refine⟨yb _,fun _=>⟨h3,m,ver,_,rfl,by rw[yJ,yG],?_⟩⟩
     rw[yG];exact yj _ h3
   ·cases h
  ·cases h
 ·split at h
  ·rename_i loc n off len c _ u l k' md hb
   split at h
   ·rename_i hk hz
    simp only[yd,yh] at h;obtain⟨hi,rfl⟩:=h
    have hk:=zj hk
    subst hk
    obtain⟨h1,h2,h3⟩:=kU hi
    obtain⟨hone,o,ho,hc⟩:=ha
    obtain⟨hl,hQ⟩:=(hc _ _ _ _ hb).2 rfl
    cases o with
    |none=>
     have hl0:l=[]:=hr.blk _ _ _ hb ho
     rw[hl0] at hl;simp at hl;omega
    |some p=>
     obtain⟨m,ver⟩:=p
     cases(show x=_ from hQ)
     refine⟨_,zfJ hz hi,rfl,some (m,ver),ho,fun u' l' k' md' hb'=>?_⟩
     rw[hb] at hb';cases hb'
     refine⟨yb _,fun _=>⟨by omega,m,ver,_,rfl,by rw[yJ,yT],?_⟩⟩
     rw[<- yT];exact yj _ (by omega)
   ·cases h
  ·cases h
 ·split at h
  ·rename_i loc n len _ u l k' md hb
   split at h
   ·rename_i len' el hu
    split at h
    ·rename_i z hz
     split at h
     ·rename_i hk hz2 hl2
      have hk:=zj hk;have hz2:=zj hz2;have hl2:=zj hl2
      subst hk;subst hz2;subst hl2
      simp only[yd,yh] at h;obtain⟨hi,rfl⟩:=h
      obtain⟨h1,h2,h3⟩:=kU hi
      obtain⟨hone,o,ho,hc⟩:=ha
      obtain⟨hl,m,rfl,rfl⟩:=(hc _ _ _ _ hb).2 rfl
      refine⟨.ptr m (0+i.toNat*u.sz) 0 (len'*u.sz),?_,rfl,some (m,0),ho,fun u' l' k2 md' hb'=>?_⟩
      ·simp only[jN,hu,hz]
       rw[if_pos ⟨h1,h2⟩]
      ·rw[hb] at hb';cases hb'
       exact⟨yb _,fun _=>⟨by omega,m,0,_,rfl,by rw[yJ,yG],yj _ h3⟩⟩
     ·cases h
    ·cases h
   ·cases h
  ·cases h
 ·split at h
  ·rename_i hz
   simp only[yd,yh] at h;obtain⟨hi,rfl⟩:=h
   obtain⟨m,h4,rfl⟩:=ha
   exact⟨_,zfJ hz hi,m,h4,rfl⟩
  ·cases h
 ·split at h
  ·rename_i len el hu
   split at h
   ·rename_i z hz
    simp only[yd,yh] at h;obtain⟨hi,rfl⟩:=h
    obtain⟨h1,h2,h3⟩:=kU hi
    obtain⟨m,h4,rfl⟩:=ha
    refine⟨_,?_,m,h4,rfl⟩
    simp only[jN,hu,hz]
    rw[if_pos ⟨h1,h2⟩]
   ·cases h
  ·cases h
 ·split at h
  ·rename_i len el hu
   split at h
   ·rename_i z hz
    simp only[yd,yh] at h;obtain⟨hi,rfl⟩:=h
    obtain⟨h1,h2,h3⟩:=kU hi
    cases(show x=_ from ha)
    refine⟨_,?_,rfl⟩
    simp only[jN,hu,hz]
    rw[if_pos ⟨h1,h2⟩]
   ·cases h
  ·cases h
 ·cases h
theorem zdX(hr:RH X)(he:EvR X e m){t:TypeId}{ox oi:Operand}{a b v:SV}{i:Int}(hx:e ox=some a)(hi:e oi=some b)(hb:zv6 b=some i)(h:zc1 P t a i X.sh=some (true,v)):∃ rs,mop P m X.h (.indexAddr t ox oi)=some rs/\SRR X (.val v X.sh) rs:=by
 obtain⟨p,h1,h2⟩:=he _ _ hx
 obtain⟨q,h3,h4⟩:=he _ _ hi
 obtain⟨k,rfl⟩:=zeu hb h4
 obtain⟨y,h5,h6⟩:=zhE hr (k:=k) h2 h
 exact⟨_,by simp only[mop,h1,h3,h5,rv],.same hr h6⟩
end
end Go.Sx
namespace Go.Sx
open Go Go.Gx Go.Mx
variable [kF]
section
variable {P:Program} {gl:GL} {X:Gst} {e:Operand->Option SV} {m:Operand->Option AV}
def ints(k:IntKind):List SV->Option (List Int)
 | []=>some []
 |.a (.int k' n)::l=>if k=k' then match ints k l with
  |some r=>some (n::r)
  |none=>none
  else none
 |_=>none
def u8s:List SV->Option (List UInt8)
 | []=>some []
 |.u8 b::l=>match u8s l with
  |some r=>some (b::r)
  |none=>none
 |_=>none
theorem zjD{k:IntKind}{cs:List SV}{xs:List AV}{l:List Int}(hc:RVs X cs xs)(h:ints k cs=some l):xs=l.map (.int k):=by
 induction cs generalizing xs l with
 |nil=>cases h;exact hc
 |cons v cs ih=>
  obtain⟨x,t,rfl,h1,h2⟩:=hc
  unfold ints at h
  split at h
  ·cases ‹_=[]›
  ·rename_i k' n l' heq
   cases heq
   split at h
   ·rename_i hk
    subst hk
    split at h
    ·rename_i r hr;cases h;cases(show x=_ from h1);rw[ih h2 hr];rfl
    ·cases h
   ·cases h
  ·cases h
theorem ziU{cs:List SV}{xs:List AV}{l:List UInt8}(hc:RVs X cs xs)(h:u8s cs=some l):xs=l.map kT:=by
 induction cs generalizing xs l with
 |nil=>cases h;exact hc
 |cons v cs ih=>
  obtain⟨x,t,rfl,h1,h2⟩:=hc
  unfold u8s at h
  split at h
  ·cases ‹_=[]›
  ·rename_i b l' heq
   cases heq
   split at h
   ·rename_i r hr;cases h;cases(show x=_ from h1);rw[ih h2 hr];rfl
   ·cases h
  ·cases h
def zta(P:Program)(t:TypeId)(x:SV)(i:Int):Option (Bool×SV):=
 match P.underlying t,x with
 |some .string,.a (.str l)=>some (inb i l.length,.u8 (nth .u8 l i.toNat))
 |some (.array n e),.agg cs=>match P.underlying e,zcC P e with
  |some (.int .u8),some 1=>match u8s cs with
   |some l=>some (inb i n&&inb i l.length,.u8 (nth .u8 l i.toNat))
   |none=>none
  |some (.int k),some 1=>match ints k cs with
   |some l=>some (inb i n&&inb i l.length,.a (.int k (nth (.int k) l i.toNat)))
   |none=>none
  |_,_=>none
 |_,_=>none
theorem zoE{t:TypeId}{k:IntKind}(h:P.underlying t=some (.int k)):zlp P t=some false:=by unfold zlp;rw[h]
theorem znM(hr:RH X)(he:EvR X e m){t:TypeId}{ox oi:Operand}{a b v:SV}{i:Int}(hx:e ox=some a)(hi:e oi=some b)(hb:zv6 b=some i)(h:zta P t a i=some (true,v)):∃ rs,mop P m X.h (.index t ox oi)=some rs/\SRR X (.val v X.sh) rs:=by
 obtain⟨p,h1,h2⟩:=he _ _ hx
 obtain⟨q,h3,h4⟩:=he _ _ hi
 obtain⟨k,rfl⟩:=zeu hb h4
 suffices hk:∃ y,zjK P t p (.int k i)=some y/\RV X v y by
  obtain⟨y,h5,h6⟩:=hk
  exact⟨_,by simp only[mop,h1,h3,h5,rv],.same hr h6⟩
 unfold zta at h
 split at h
 ·rename_i l hu
  simp only[yd,yh] at h;obtain⟨hi,rfl⟩:=h
  obtain⟨k1,k2,k3⟩:=kU hi
  cases(show p=_ from h2)
  refine⟨kT (nth .u8 l i.toNat),?_,rfl⟩
  simp only[zjK,hu]
  rw[if_pos k1,zcA (u:=.u8) k3]
 ·rename_i n el cs hu
  obtain⟨xs,rfl,hc⟩:=h2
  split at h
  ·rename_i he1 hs
   split at h
   ·rename_i l hl
    simp only[yd,yh,ye] at h;obtain⟨⟨hi1,hi2⟩,rfl⟩:=h
    obtain⟨k1,k2,k3⟩:=kU hi1
    obtain⟨_,_,k4⟩:=kU hi2
    cases ziU hc hl
    refine⟨kT (nth .u8 l i.toNat),?_,rfl⟩
    simp only[zjK,hu,hs]
    rw[if_pos ⟨k1,k2⟩,yU]
    simp only[zfU,zoE he1]
    rw[yL,zcA (u:=.u8) k4];rfl
   ·cases h
  ·rename_i k' _ he1 hs
   split at h
   ·rename_i l hl
    simp only[yd,yh,ye] at h;obtain⟨⟨hi1,hi2⟩,rfl⟩:=h
    obtain⟨k1,k2,k3⟩:=kU hi1
    obtain⟨_,_,k4⟩:=kU hi2
    cases zjD hc hl
    refine⟨.int k' (nth (.int k') l i.toNat),?_,rfl⟩
    simp only[zjK,hu,hs]
    rw[if_pos ⟨k1,k2⟩,yU]
    simp only[zfU,zoE he1]
    rw[yL,zcA (u:=.int k') k4];rfl
   ·cases h
  ·cases h
 ·cases h
theorem zvV{h:zg}{m off ver lim N:Nat}{cs:List AV}(q:rd h m off ver lim N=some cs){o n lim':Nat}(ho:o+n<=N)(hl:off+o+n<=lim'):rd h m (off+o) ver lim' n=some ((cs.drop o).take n):=by
 unfold rd at q |-
 split at q
 ·split at q
  ·rename_i hc
   cases q
   rw[if_pos ⟨hc.1,hl⟩,yH,yz,yI,yw (by omega)]
  ·cases q
 ·split at q
  ·cases q
   rw[if_pos hl,yH,yz,yI,yw (by omega)]
  ·cases q
 ·cases q
theorem RSl.part{c c':Bool}{u:U}{l:List (El u)}{m off ver:Nat}{cs:List AV}(h1:X.Φ m)(h2:rd X.h m off ver (off+l.length*u.sz) (l.length*u.sz)=some cs)(h3:RCs X.h X.Φ u l cs){a n:Nat}(hl:a+n<=l.length):
  RSl X.h X.Φ c' u (slice l a (a+n)) (.sl m (off+a*u.sz) n u.sz ver c'):=by
 have hlen:=zct hl
 have hm:a*u.sz+n*u.sz<=l.length*u.sz:=by rw[<- yT];exact yj _ hl
 refine .inr ⟨m,off+a*u.sz,ver,_,_,by rw[hlen],.inl rfl,h1,?_,h3.slice hl⟩
 rw[hlen]
 exact zvV h2 hm (yb _)
def wo(a b:Int)(len:Nat):Bool:=decide (0<=a)&&decide (a<=b)&&decide (b<=len)
theorem zck{a b:Int}{len:Nat}(h:wo a b len=true):0<=a/\a<=b/\b<=len/\a.toNat+(b.toNat-a.toNat)<=len/\b.toNat=a.toNat+(b.toNat-a.toNat):=by
 unfold wo at h;simp only[ye,decide_eq_true_eq] at h;omega
def zg6(e:Operand->Option SV):Option Operand->Option (Option Int)
 |none=>some none
 |some x=>match e x with
  |some v=>match zv6 v with
   |some n=>some (some n)
   |none=>none
  |none=>none
theorem xW(he:EvR X e m){o:Option Operand}{r:Option Int}(h:zg6 e o=some r):zbi m o=some r:=by
 cases o with
 |none=>exact h
 |some x=>
  simp only[zg6] at h
  split at h
  ·rename_i v hv
   split at h
   ·rename_i n hn
    cases h
    obtain⟨p,h1,h2⟩:=he _ _ hv
    obtain⟨k,rfl⟩:=zeu hn h2
    simp only[zbi,h1]
   ·cases h
  ·cases h
def zr7(hi mx:Option Int)(b:Int):Bool:=match mx with
 |none=>true
 |some m=>decide (m=b)&&hi.isSome
def jf{α:Type}(a:Int)(l:List α):Bool:=wo a ((vg l:Nat):Int) (vg l)
def elZ(P:Program)(t:TypeId):Option Nat:=match P.underlying t with
 |some (.slice e)=>zcC P e
 |_=>none
theorem zyP{t:TypeId}{z:Nat}(h:elZ P t=some z):zlJ P t z=true:=by
 unfold elZ at h
 unfold zlJ
 revert h
 cases P.underlying t with
 |none=>intro h;cases h
 |some d=>cases d<;>intro h<;>first|(cases h;done)|(simp only at h |-;simp [h])
def zpz(P:Program)(t:TypeId)(v:SV)(lo hi mx:Option Int)(h:SH):Option (Bool×SV):=
 match v with
 |.a (.str l)=>match P.underlying t,mx with
  |some .string,none=>some (wo (lo.getD 0) (hi.getD l.length) l.length,.a (.str (slice l (lo.getD 0).toNat (hi.getD l.length).toNat)))
  |_,_=>none
 |.a .qC=>match elZ P t with
  |some _=>some (wo (lo.getD 0) (hi.getD (0:Nat)) 0&&zr7 hi mx (hi.getD (0:Nat)),.a .qC)
  |none=>none
 |.isl u l=>match zlJ P t u.sz with
  |true=>some (wo (lo.getD 0) (hi.getD l.length) l.length&&zr7 hi mx (hi.getD l.length),match mx with
   |none=>.isl u (slice l (lo.getD 0).toNat (hi.getD l.length).toNat)
   |some _=>.cl u (slice l (lo.getD 0).toNat (hi.getD l.length).toNat))
  |false=>none
 |.gs loc n=>match h[loc]? with
  |some (.seq u l k _)=>match yo k n,zlJ P t u.sz with
   |true,true=>some (wo (lo.getD 0) (hi.getD l.length) l.length&&zr7 hi mx (hi.getD l.length),.sl loc n (lo.getD 0).toNat ((hi.getD l.length).toNat-(lo.getD 0).toNat) mx.isSome)
   |_,_=>none
  |_=>none
 |.zpK loc n len=>match h[loc]?,mx with
  |some (.seq u l k _),none=>match P.underlying t with
   |some (.array len' e)=>match zcC P e with
    |some z=>match yo k n&&yo z u.sz&&yo len' len&&ym 0 z&&ym len 549755813888 with
     |true=>some (wo (lo.getD 0) (hi.getD len) len,.sl loc n (lo.getD 0).toNat ((hi.getD len).toNat-(lo.getD 0).toNat) false)
     |false=>none
    |none=>none
   |_=>none
  |_,_=>none
 |.sl loc n off len false=>match h[loc]? with
  |some (.seq u l k _)=>match yo k n,zlJ P t u.sz with
   |true,true=>some (wo (lo.getD 0) (hi.getD len) len&&zr7 hi mx (hi.getD len),.sl loc n (off+(lo.getD 0).toNat) ((hi.getD len).toNat-(lo.getD 0).toNat) mx.isSome)
   |_,_=>none
  |_=>none
 |_=>none
theorem zd7{t:TypeId}{loc off len sz ver:Nat}{lo hi mx:Option Int}{h:zg}(hz:zlJ P t sz=true)(hb:wo (lo.getD 0) (hi.getD len) len=true)(hm:zr7 hi mx (hi.getD len)=true):
  kE P t (.sl loc off len sz ver false) lo hi mx h=some (.sl loc (off+(lo.getD 0).toNat*sz) ((hi.getD len).toNat-(lo.getD 0).toNat) sz ver mx.isSome):=by
 obtain⟨el,hu,hs⟩:=zhL hz
 obtain⟨h1,h2,h3,_⟩:=zck hb
 simp only[kE,hu,hs]
 rw[if_pos ⟨trivial,h1,h2,h3⟩]
 cases mx with
 |none=>simp
 |some k=>simp [zr7] at hm;simp [hm]
theorem zp9{t:TypeId}{loc off sz ver len:Nat}{c:Bool}{lo hi mx:Option Int}{h:zg}(hz:zlJ P t sz=true)(hb:wo (lo.getD 0) (hi.getD len) len=true)(hm:zr7 hi mx (hi.getD len)=true)(hl:len=0):
  ∃ c',(mx.isSome=true->c'=true)/\kE P t (.sl loc off len sz ver c) lo hi mx h=some (.sl loc (off+(lo.getD 0).toNat*sz) ((hi.getD len).toNat-(lo.getD 0).toNat) sz ver c'):=by
 obtain⟨el,hu,hs⟩:=zhL hz
 obtain⟨h1,h2,h3,_⟩:=zck hb
 simp only[kE,hu,hs]
 rw[if_pos ⟨trivial,h1,h2,h3⟩]
 cases mx with
 |none=>exact⟨c,(fun h=>absurd h (by simp)),by rw[if_neg (by omega)]⟩
 |some k=>simp [zr7] at hm;exact⟨true,(fun _=>rfl),by simp [hm]⟩
theorem zeq{t:TypeId}{sz:Nat}{lo hi mx:Option Int}{h:zg}(hz:zlJ P t sz=true)(hb:wo (lo.getD 0) (hi.getD (0:Nat)) 0=true)(hm:zr7 hi mx (hi.getD (0:Nat))=true):kE P t .qC lo hi mx h=some .qC:=by
 obtain⟨el,hu,hs⟩:=zhL hz
 obtain⟨h1,h2,h3,_⟩:=zck hb
 simp only[kE,hu]
 rw[if_pos]
 have e1:lo.getD 0=0:=by omega
 have e2:hi.getD 0=0:=by have:hi.getD 0=hi.getD ((0:Nat):Int):=rfl;omega
 refine⟨e1,e2,?_,?_,by rw[hs];rfl⟩
 ·cases mx with
  |none=>rfl
  |some k=>simp [zr7] at hm;simp [hm.1];exact e2
 ·cases mx with
  |none=>simp
  |some k=>simp [zr7] at hm;simp [hm.2]
theorem zhb(hr:RH X){t:TypeId}{a v:SV}{x:AV}{lo hi mx:Option Int}(ha:RV X a x)(h:zpz P t a lo hi mx X.sh=some (true,v)):∃ y,kE P t x lo hi mx X.h=some y/\RV X v y:=by
 unfold zpz at h
 split at h
 ·rename_i l
  split at h
  ·rename_i hu
   simp only[yd,yh] at h;obtain⟨hb,rfl⟩:=h
   obtain⟨h1,h2,h3,_⟩:=zck hb
   cases(show x=_ from ha)
   refine⟨_,?_,rfl⟩
   simp only[kE,hu]
   rw[if_pos ⟨rfl,h1,h2,h3⟩];rfl
  ·cases h
 ·split at h
  ·rename_i z hz
   simp only[yd,yh,ye] at h;obtain⟨⟨hb,hm⟩,rfl⟩:=h
   cases(show x=_ from ha)
   exact⟨.qC,zeq (zyP hz) hb hm,rfl⟩
  ·cases h
 ·rename_i u l
  split at h
  ·rename_i hz
   simp only[yd,yh,ye] at h;obtain⟨⟨hb,hm⟩,rfl⟩:=h
   obtain⟨h1,h2,h3,h4,h5⟩:=zck hb
   rcases ha with⟨rfl,rfl⟩|⟨m',off,ver,c',cs,rfl,q0,q1,q2,q3⟩
   ·refine⟨.qC,zeq hz hb hm,?_⟩
    cases mx with
    |none=>exact .inl ⟨by simp [slice],rfl⟩
    |some k=>exact⟨.inl ⟨by simp [slice],rfl⟩,trivial⟩
   ·by_cases hl0:l=[]
    ·obtain⟨c2,hc3,hc2⟩:=zp9 (loc:=m') (off:=off) (ver:=ver) (c:=c') (h:=X.h) hz hb hm (by rw[hl0];rfl)
     refine⟨_,hc2,?_⟩
     have e1:slice l (lo.getD 0).toNat (hi.getD l.length).toNat=[]:=by rw[hl0];simp [slice]
     have hln:l.length=0:=by rw[hl0];rfl
     have k1:(hi.getD l.length).toNat-(lo.getD 0).toNat=0:=by omega
     have k2:(lo.getD 0).toNat=0:=by omega
     rw[e1,k1,k2,vj,yJ]
     have q4:=zvV q2 (o:=0) (n:=0) (lim':=off) (vy _) (by omega)
     have:∀ c0,RSl X.h X.Φ c0 u [] (.sl m' off 0 u.sz ver c2):=fun c0=>.inr ⟨m',off,ver,c2,[],by rfl,.inr rfl,q1,by simpa using q4,.nil⟩
     cases mx with
     |none=>exact this false
     |some k=>exact⟨this true,hc3 rfl⟩
    ·have hc':c'=false:=q0.resolve_right hl0
     subst hc'
     refine⟨_,zd7 hz hb hm,?_⟩
     rw[show slice l (lo.getD 0).toNat (hi.getD l.length).toNat=slice l (lo.getD 0).toNat ((lo.getD 0).toNat+((hi.getD l.length).toNat-(lo.getD 0).toNat)) from by rw[<- h5]]
     cases mx with
     |none=>exact RSl.part (c:=false) q1 q2 q3 h4
     |some k=>exact⟨RSl.part (c:=false) q1 q2 q3 h4,rfl⟩
  ·cases h
 ·split at h
  ·rename_i loc n _ u l k md hb
   split at h
   ·rename_i hk hz
    have hk:=zj hk
    subst hk
    simp only[yd,yh,ye] at h;obtain⟨⟨hbb,hm⟩,rfl⟩:=h
    obtain⟨h1,h2,h3,h4,h5⟩:=zck hbb
    obtain⟨hone,o,ho,hc⟩:=ha
    have hQ:=(hc _ _ _ _ hb).2 rfl
    cases o with
    |none=>
     obtain⟨rfl,hl⟩:=hQ
     rw[hl] at hbb hm h4
     refine⟨.qC,zeq hz hbb hm,rfl,none,ho,fun u' l' k' md' hb'=>?_⟩
     rw[hb] at hb';cases hb'
     exact⟨yb _,fun _=>⟨by rw[hl];exact h4,rfl⟩⟩
    |some p=>
     obtain⟨m',ver⟩:=p
     cases(show x=_ from hQ)
     refine⟨_,zd7 hz hbb hm,rfl,some (m',ver),ho,fun u' l' k' md' hb'=>?_⟩
     rw[hb] at hb';cases hb'
     exact⟨yb _,fun _=>⟨h4,by rw[yG]⟩⟩
   ·cases h
  ·cases h
 ·split at h
  ·rename_i loc n len _ _ u l k md hb
   split at h
   ·rename_i len' el hu
    split at h
    ·rename_i z hz
     split at h
     ·rename_i hall
      simp only[ye] at hall
      obtain⟨⟨⟨⟨hk,hz2⟩,hl2⟩,hzp⟩,h39⟩:=hall
      have hk:=zj hk;have hz2:=zj hz2;have hl2:=zj hl2;have hzp:0+1<=z:=yk hzp;have h39:len+1<=549755813888:=yk h39
      subst hk;subst hl2
      simp only[yd,yh] at h;obtain⟨hbb,rfl⟩:=h
      obtain⟨h1,h2,h3,h4,h5⟩:=zck hbb
      obtain⟨hone,o,ho,hc⟩:=ha
      obtain⟨hl,m',rfl,rfl⟩:=(hc _ _ _ _ hb).2 rfl
      obtain⟨cells,minv,tt,q1,q2,q3,q4⟩:=hr.blk _ _ _ hb ho
      obtain⟨z',rfl⟩:∃ z',z=z'+1:=⟨z-1,by omega⟩
      have hcl:cells.length=len'*(z'+1):=by rw[q3.1,<- hl,<- hz2]
      refine⟨.sl m' ((lo.getD 0).toNat*(z'+1)) ((hi.getD len').toNat-(lo.getD 0).toNat) (z'+1) 0 false,?_,rfl,some (m',0),ho,fun u' l' k' md' hb'=>?_⟩
      ·simp only[kE,hu,hz,q1]
       rw[if_pos ⟨rfl,h1,h2,h3,trivial,by omega,by rw[hcl,yG],by rw[hcl,hz2]⟩,yG]
      ·rw[hb] at hb';cases hb'
       exact⟨yb _,fun _=>⟨by omega,by rw[hz2]⟩⟩
     ·cases h
    ·cases h
   ·cases h
  ·cases h
 ·split at h
  ·rename_i loc n off len _ u l k md hb
   split at h
   ·rename_i hk hz
    have hk:=zj hk
    subst hk
    simp only[yd,yh,ye] at h;obtain⟨⟨hbb,hm⟩,rfl⟩:=h
    obtain⟨h1,h2,h3,h4,h5⟩:=zck hbb
    obtain⟨hone,o,ho,hc⟩:=ha
    obtain⟨hl,hQ⟩:=(hc _ _ _ _ hb).2 rfl
    cases o with
    |none=>
     cases(show x=_ from hQ)
     have hl0:l=[]:=hr.blk _ _ _ hb ho
     have hlen:len=0:=by rw[hl0] at hl;simp at hl;omega
     subst hlen
     refine⟨.qC,zeq hz hbb hm,rfl,none,ho,fun u' l' k' md' hb'=>?_⟩
     rw[hb] at hb';cases hb'
     exact⟨yb _,fun _=>⟨by omega,rfl⟩⟩
    |some p=>
     obtain⟨m',ver⟩:=p
     cases(show x=_ from hQ)
     refine⟨_,zd7 hz hbb hm,rfl,some (m',ver),ho,fun u' l' k' md' hb'=>?_⟩
     rw[hb] at hb';cases hb'
     exact⟨yb _,fun _=>⟨by omega,by rw[yT]⟩⟩
   ·cases h
  ·cases h
 ·cases h
theorem zoq(hr:RH X)(he:EvR X e m){t:TypeId}{ox:Operand}{ol oh om:Option Operand}{a v:SV}{lo hi mx:Option Int}(hx:e ox=some a)(h1:zg6 e ol=some lo)(h2:zg6 e oh=some hi)(h3:zg6 e om=some mx)(h:zpz P t a lo hi mx X.sh=some (true,v)):
  ∃ rs,mop P m X.h (.slice t ox ol oh om)=some rs/\SRR X (.val v X.sh) rs:=by
 obtain⟨p,q1,q2⟩:=he _ _ hx
 obtain⟨y,q3,q4⟩:=zhb hr q2 h
 exact⟨_,by simp only[mop,q1,xW he h1,xW he h2,xW he h3,zgD q3,rv],.same hr q4⟩
def zAo(P:Program)(t:TypeId)(v:SV)(h:SH):Option Nat:=match P.underlying t,v with
 |some .string,.a (.str l)=>some l.length
 |some (.array n _),_=>some n
 |some (.slice _),.a .qC=>some 0
 |some (.slice _),.isl _ l=>some l.length
 |some (.slice _),.cl _ l=>some l.length
 |some (.slice _),.gs loc n=>match h[loc]? with
  |some (.seq _ l m _)=>match yo m n with
   |true=>some l.length
   |false=>none
  |_=>none
 |some (.slice _),.sl loc n _ len _=>match h[loc]? with
  |some (.seq _ l m _)=>match yo m n with
   |true=>some len
   |false=>none
  |_=>none
 |some (.slice _),.lsl n=>some n
 |some (.slice _),.csl _ _ n _=>some n
 |some (.map _ _),.a .zhx=>some 0
 |some (.map _ _),.map loc=>match h[loc]? with
  |some (.map ks _ _)=>some ks.length
  |some (.kv _ _ l _)=>some l.length
  |_=>none
 |some (.map _ _),.zxP ks _=>some ks.length
 |_,_=>none
theorem zqr(hr:RH X){t:TypeId}{v:SV}{x:AV}{n:Nat}(hv:RV X v x)(h:zAo P t v X.sh=some n):zrX P t x X.h=some (.int .i64 (n:Int)):=by
 unfold zAo at h
 unfold zrX
 split at h
 ·rename_i hu;cases h;cases(show x=_ from hv);rw[hu]
 ·rename_i hu;cases h;rw[hu]
 ·rename_i hu;cases h;cases(show x=_ from hv);rw[hu];rfl
 ·rename_i hu;cases h;rw[hu];rcases hv with⟨rfl,rfl⟩|⟨m,off,ver,c',cs,rfl,_⟩<;>rfl
 ·rename_i hu;cases h;rw[hu];rcases hv.1 with⟨rfl,rfl⟩|⟨m,off,ver,c',cs,rfl,_⟩<;>rfl
 ·rename_i hu
  rw[hu]
  split at h
  ·rename_i l k md hb
   split at h
   ·rename_i hk
    cases h
    have hk:=zj hk
    subst hk
    obtain⟨hone,o,ho,hc⟩:=hv
    have hQ:=(hc _ _ _ _ hb).2 rfl
    cases o with
    |none=>obtain⟨rfl,hl⟩:=hQ;rw[hl];rfl
    |some p=>cases(show x=_ from hQ);rfl
   ·cases h
  ·cases h
 ·rename_i hu
  rw[hu]
  split at h
  ·rename_i l k md hb
   split at h
   ·rename_i hk
    cases h
    have hk:=zj hk
    subst hk
    obtain⟨hone,o,ho,hc⟩:=hv
    obtain⟨hl,hQ⟩:=(hc _ _ _ _ hb).2 rfl
    cases o with
    |none=>
     cases(show x=_ from hQ)
     have hl0:=hr.blk _ _ _ hb ho
     have hl0:_=[]:=hl0
     rw[hl0] at hl;simp at hl;rw[hl.2];rfl
    |some p=>cases(show x=_ from hQ);rfl
   ·cases h
  ·cases h
 ·rename_i hu;cases h;rw[hu];rcases hv with⟨rfl,rfl⟩|⟨m,off,sz,ver,c,rfl⟩<;>rfl
 ·rename_i hu;cases h;obtain⟨m,_,rfl⟩:=hv;rw[hu]
 ·rename_i hu;cases h;cases(show x=_ from hv);rw[hu];rfl
 ·rename_i hu
  rw[hu]
  split at h
  ·rename_i ks vs md hb
   cases h
   obtain⟨m,⟨ver,hσ⟩,rfl⟩:=hv
   obtain⟨m',es,e1,h1,h2,h3⟩:=hr.blk _ _ _ hb hσ
   cases e1
   have:=h2.length
   simp only[vq] at this
   simp only[h1,this]
  ·rename_i u v l md hb
   cases h
   obtain⟨m,⟨ver,hσ⟩,rfl⟩:=hv
   obtain⟨m',es,e1,h1,h2,h3⟩:=hr.blk _ _ _ hb hσ
   cases e1
   have:=h2.length
   simp only[vq,kvK] at this
   simp only[h1,this]
  ·cases h
 ·rename_i hu
  cases h
  rw[hu]
  obtain⟨m,es,rfl,_,h1,h2,h3⟩:=hv
  have:=h2.length
  simp only[vq] at this
  simp only[h1,this]
 ·cases h
end
section
variable {P:Program} {gl:GL} {X:Gst} {e:Operand->Option SV} {m:Operand->Option AV}
def zv0(P:Program)(el:TypeId)(off n lim:Nat)(cs:List SV)(i:Int):Option (Bool×SV):=
 match uOf P 6 el,zcC P el,u8s ((cs.drop off).take (n+n)) with
 |some (.pair .u8 .u8),some 2,some l=>match yo l.length (n+n)&&yQ (off+(n+n)) lim with
  |true=>some (inb i n,.zi2 (.pair .u8 .u8) (nth .u8 l (i.toNat+i.toNat),nth .u8 l (i.toNat+i.toNat+1)) 0)
  |false=>none
 |_,_,_=>none
def zlb(P:Program)(gl:GL)(t:TypeId)(x:SV)(i:Int):Option (Bool×SV):=match x with
 |.zjA g off lim=>match P.underlying t,gl[g]? with
  |some (.array n el),some (some cs)=>match yQ (off+n) lim,P.underlying el,zcC P el with
   |true,some (.int .u8),some 1=>match u8s ((cs.drop off).take n) with
    |some l=>some (inb i n&&inb i l.length,.zi2 .u8 (nth .u8 l i.toNat) 0)
    |none=>none
   |true,some (.int k),some 1=>match ints k ((cs.drop off).take n) with
    |some l=>some (inb i n&&inb i l.length,.zi2 (.int k) (nth (.int k) l i.toNat) 0)
    |none=>none
   |_,_,_=>zv0 P el off n lim cs i
  |_,_=>none
 |_=>none
theorem zlc(hr:RH X)(hg:RGl P gl X){t:TypeId}{a v:SV}{x:AV}{k:IntKind}{i:Int}(ha:RV X a x)(h:zlb P gl t a i=some (true,v)):∃ y,jN P t x (.int k i)=some y/\RV X v y:=by
 unfold zlb at h
 split at h
 ·rename_i g off lim
  split at h
  ·rename_i n el cs hu hcs
   obtain⟨_,hΦ,cells,hrow,hcells⟩:=hg g cs hcs
   cases(show x=_ from ha)
   have hsub:=(hcells.drop off).take n
   have one:∀ (y:AV) (j:Nat),((cells.drop off).take n)[j]?=some y->rd X.h g (off+j) 0 (off+j+1) 1=some [y]:=fun y j hy=>by
    unfold rd
    rw[hrow]
    simp only[yb,if_true]
    rw[yR] at hy
    split at hy
    ·rw[yS] at hy
     congr 1
     obtain⟨hlt,e⟩:=yc.1 hy
     rw[yE hlt,e];rfl
    ·cases hy
   split at h
   ·rename_i hle he1 hs1
    split at h
    ·rename_i l hl
     simp only[yd,yh,ye] at h;obtain⟨⟨hi,hi2⟩,rfl⟩:=h
     obtain⟨h1,h2,h3⟩:=kU hi
     obtain⟨h4,h5,h6⟩:=kU hi2
     have hle:=yk hle
     have hx:=ziU hsub hl
     have hy:((cells.drop off).take n)[i.toNat]?=some (kT (nth .u8 l i.toNat)):=by rw[hx,yL,show l[i.toNat]?=some (nth .u8 l i.toNat) from zcA (u:=.u8) h6];rfl
     refine⟨.ptr g (off+i.toNat*1) 0 lim,?_,g,off+i.toNat,0,lim,[kT (nth .u8 l i.toNat)],by rw[yU,yJ],hΦ,?_,⟨_,one _ _ hy⟩,rfl,rfl⟩
     ·simp only[jN,hu,hs1]
      rw[if_pos ⟨h1,h2⟩]
     ·show off+i.toNat+1<=lim;omega
    ·cases h
   ·rename_i k' hnu hle he1 hs1
    split at h
    ·rename_i l hl
     simp only[yd,yh,ye] at h;obtain⟨⟨hi,hi2⟩,rfl⟩:=h
     obtain⟨h1,h2,h3⟩:=kU hi
     obtain⟨h4,h5,h6⟩:=kU hi2
     have hle:=yk hle
     have hx:=zjD hsub hl
     have hy:((cells.drop off).take n)[i.toNat]?=some (.int k' (nth (.int k') l i.toNat)):=by rw[hx,yL,show l[i.toNat]?=some (nth (.int k') l i.toNat) from zcA (u:=.int k') h6];rfl
     refine⟨.ptr g (off+i.toNat*1) 0 lim,?_,g,off+i.toNat,0,lim,[.int k' (nth (.int k') l i.toNat)],by rw[yU,yJ],hΦ,?_,⟨_,one _ _ hy⟩,rfl,rfl⟩
     ·simp only[jN,hu,hs1]
      rw[if_pos ⟨h1,h2⟩]
     ·show off+i.toNat+1<=lim;omega
    ·cases h
   ·unfold zv0 at h
    split at h
    ·rename_i l hu6 hs2 hl
     split at h
     ·rename_i hb
      simp only[yd,yh] at h;obtain⟨hi,rfl⟩:=h
      rw[ye] at hb
      have hll:=zj hb.1
      have hle:=yk hb.2
      obtain⟨h1,h2,h3⟩:=kU hi
      have hx:=ziU ((hcells.drop off).take (n+n)) hl
      have get:∀ j,j<n+n->cells[off+j]?=some (kT (nth .u8 l j)):=fun j hj=>by
       have e0:((cells.drop off).take (n+n))[j]?=some (kT (nth .u8 l j)):=by
        rw[hx,yL,show l[j]?=some (nth .u8 l j) from zcA (u:=.u8) (by omega)];rfl
       rw[yR,if_pos hj,yS] at e0
       exact e0
      have g0:=get (i.toNat+i.toNat) (by omega)
      have g1:=get (i.toNat+i.toNat+1) (by omega)
      have hrd:rd X.h g (off+(i.toNat+i.toNat)) 0 (off+(i.toNat+i.toNat)+2) 2=some [kT (nth .u8 l (i.toNat+i.toNat)),kT (nth .u8 l (i.toNat+i.toNat+1))]:=by
       unfold rd
       rw[hrow]
       simp only[yb,if_true]
       congr 1
       obtain⟨l0,e0⟩:=yc.1 g0
       obtain⟨l1,e1⟩:=yc.1 g1
       rw[yE l0,e0,show off+(i.toNat+i.toNat)+1=off+(i.toNat+i.toNat+1) from by omega,yE l1,e1];rfl
      refine⟨.ptr g (off+i.toNat*2) 0 lim,?_,g,off+(i.toNat+i.toNat),0,lim,_,by rw[yJ,Nat.mul_two],hΦ,?_,⟨_,hrd⟩,rfl,?_⟩
      ·simp only[jN,hu,hs2]
       rw[if_pos ⟨h1,h2⟩]
      ·show off+(i.toNat+i.toNat)+2<=lim;omega
      ·exact⟨[_],[_],rfl,rfl,rfl⟩
     ·cases h
    ·cases h
  ·cases h
 ·cases h
theorem zhu(hr:RH X)(hg:RGl P gl X)(he:EvR X e m){t:TypeId}{ox oi:Operand}{a b v:SV}{i:Int}(hx:e ox=some a)(hi:e oi=some b)(hb:zv6 b=some i)(h:zlb P gl t a i=some (true,v)):∃ rs,mop P m X.h (.indexAddr t ox oi)=some rs/\SRR X (.val v X.sh) rs:=by
 obtain⟨p,h1,h2⟩:=he _ _ hx
 obtain⟨q,h3,h4⟩:=he _ _ hi
 obtain⟨k,rfl⟩:=zeu hb h4
 obtain⟨y,h5,h6⟩:=zlc hr hg (k:=k) h2 h
 exact⟨_,by simp only[mop,h1,h3,h5,rv],.same hr h6⟩
end
end Go.Sx
namespace Go.Sx
open Go Go.Gx Go.Mx
variable [kF]
def zG:Nat:=549755813888
section
variable {P:Program} {gl:GL} {X:Gst} {e:Operand->Option SV} {m:Operand->Option AV}
theorem zli(b:UInt8):toByte (kT b)=some b:=by
 have:=b.toNat_lt
 unfold kT toByte
 simp only
 rw[if_pos (by omega)]
 simp
theorem zfh(l:List UInt8):zb9 (l.map kT)=some l:=by
 induction l with
 |nil=>rfl
 |cons b l ih=>simp only[vL,zb9,zli,ih]
theorem RCs.bytes{h:zg}{Φ:Nat->Prop}{l:List UInt8}{cs:List AV}(q:RCs h Φ .u8 l cs):cs=l.map kT:=by
 have hl:=q.1
 simp only[U.sz,yU] at hl
 refine yV fun i=>?_
 by_cases hi:i<l.length
 ·have h1:=q.2 i l[i] (yf hi)
  have h2:part 1 cs i=[kT l[i]]:=h1
  rw[jE,yU] at h2
  have h3:=congrArg (fun r:List AV=>r[0]?) h2
  simp only[yR,yS,yJ] at h3
  rw[yL,yf hi]
  simpa using h3
 ·rw[vv (by omega),vv (by rw[vq];omega)]
theorem RCs.ofBytes{h:zg}{Φ:Nat->Prop}(l:List UInt8):RCs h Φ .u8 l (l.map kT):=by
 refine⟨by simp [U.sz],fun i e hi=>?_⟩
 show part 1 _ i=[kT e]
 rw[jE,yU]
 have hl:=(yc.1 hi).1
 rw[yE (by simpa using hl)]
 simp only[List.take_succ_cons,List.take_zero,List.getElem_map]
 have:l[i]=e:=(yc.1 hi).2
 rw[this]
def zuL(P:Program)(s d:TypeId)(x:SV)(h:SH):Option (Bool×SV×SH):=
 match P.underlying s,P.underlying d,x with
 |some _,some (.int .u8),.a (.int _ n)=>some (true,.u8 (zdC n),h)
 |some _,some (.int .u8),.u8 b=>some (true,.u8 b,h)
 |some _,some (.int k),.a (.int _ n)=>some (true,.a (.int k (k.wrap n)),h)
 |some _,some (.int k),.u8 b=>some (true,.a (.int k (k.wrap (b.toNat:Int))),h)
 |some .string,some .string,.a (.str l)=>some (true,.a (.str l),h)
 |some .string,some (.slice e),.a (.str l)=>match P.underlying e with
  |some (.int .u8)=>some (ym l.length zG,.gs h.length 0,h++[.seq .u8 l 0 0])
  |_=>none
 |some (.slice e),some .string,x=>match P.underlying e with
  |some (.int .u8)=>match reads .u8 x h with
   |some l=>some (true,.a (.str l),h)
   |none=>none
  |_=>none
 |some (.slice _),some (.slice e),.gs loc n=>match P.underlying e,h[loc]? with
  |some (.int .u8),some (.seq u l k 0)=>match yo k n&&(yo s d&&ym k 65536) with
   |true=>some (ym 0 l.length,.gs loc n,h)
   |false=>none
  |_,_=>none
 |some (.pointer t),some .unsafePointer,.ptr loc off lim=>match h[loc]? with
  |some (.cells _ _ _)=>match wide P t&&ym off lim with
   |true=>some (true,.ptr loc off lim,h)
   |false=>none
  |_=>none
 |some .unsafePointer,some (.pointer u),.ptr loc off lim=>match h[loc]? with
  |some (.cells _ _ (some T))=>match yo T u&&(yo off 0&&(ym 0 (P.cellsOf u)&&yQ (P.cellsOf u) lim)) with
   |true=>some (true,.ptr loc off lim,h)
   |false=>none
  |_=>none
 |_,_,_=>none
theorem kS{a b:Nat}(h:ym a b=true):a<b:=by simpa [vJ] using h
theorem zes(hr:RH X){u:U}{l:List (El u)}{cells:List AV}{tt:Option TypeId}(n:Nat:=0)(hn:(mkS n).or tt=tt:=by rfl)(hc:RCs X.h X.Φ u l cells):∃ Y,Stp X Y/\Y.sh=X.sh++[.seq u l n 0]/\Y.h=X.h++[Blk.row cells 0 0 0 false tt]/\RV Y (.gs X.sh.length n) (.sl X.h.length 0 l.length u.sz 0 false):=by
 refine⟨_,Stp.push hr (b:=.seq u l n 0) (blk:=.row cells 0 0 0 false tt) (by simp [SB.md]) (fun hle=>⟨cells,0,tt,?_,yb _,hc.le hle.h hle.Φ,fun e=>by cases e⟩),rfl,rfl,rfl,some (X.h.length,0),?_,fun u' l' k' md' hb'=>?_⟩
 ·show(X.h++[_])[X.h.length]?=_
  rw[hn,Arr.z7 (yb _),yC];rfl
 ·show(X.σ++[_])[X.sh.length]?=_
  rw[<- hr.len,yi (yb _),yC];rfl
 ·have hb':(X.sh++[SB.seq u l n 0])[X.sh.length]?=some (.seq u' l' k' md'):=hb'
  rw[yi (yb _),yC] at hb'
  cases hb'
  exact⟨yb _,fun _=>rfl⟩
theorem zoj(hr:RH X){s d:TypeId}{a v:SV}{x:AV}{sh':SH}(ha:RV X a x)(h:zuL P s d a X.sh=some (true,v,sh')):∃ y h',zb3 P s d x X.h=some (y,h')/\∃ Y,Stp X Y/\Y.sh=sh'/\Y.h=h'/\RV Y v y:=by
 unfold zuL at h
 split at h
 ·rename_i k n hs hd
  cases h;cases(show x=_ from ha)
  exact⟨.int .u8 (IntKind.u8.wrap n),_,by simp only[zb3,hs,hd],X,.refl hr,rfl,rfl,congrArg (AV.int .u8) (zi0 n)⟩
 ·rename_i b hs hd
  cases h;cases(show x=_ from ha)
  exact⟨.int .u8 (IntKind.u8.wrap (b.toNat:Int)),_,by simp only[zb3,hs,hd],X,.refl hr,rfl,rfl,congrArg (AV.int .u8) (zm1 b)⟩
 ·rename_i hs hd
  cases h;cases(show x=_ from ha)
  exact⟨_,_,by simp only[zb3,hs,hd],X,.refl hr,rfl,rfl,rfl⟩
 ·rename_i hs hd
  cases h;cases(show x=_ from ha)
  exact⟨_,_,by simp only[zb3,hs,hd],X,.refl hr,rfl,rfl,rfl⟩
 ·rename_i hs hd
  cases h;cases(show x=_ from ha)
  exact⟨_,_,by simp only[zb3,hs,hd],X,.refl hr,rfl,rfl,rfl⟩
 ·rename_i el l hs hd
  split at h
  ·rename_i he
   simp only[yd,yh] at h;obtain⟨hl,rfl,rfl⟩:=h
   cases(show x=_ from ha)
   obtain⟨Y,h1,h2,h3,h4⟩:=zes hr (u:=.u8) (l:=l) (cells:=l.map kT) (tt:=none) (hc:=.ofBytes l)
   refine⟨_,_,?_,Y,h1,h2,h3,h4⟩
   simp only[zb3,hs,hd,he]
   rw[if_pos (show l.length<549755813888 from kS hl)];rfl
  ·cases h
 ·rename_i el hs hd
  split at h
  ·rename_i he
   split at h
   ·rename_i l hl
    cases h
    refine⟨.str l,X.h,?_,X,.refl hr,rfl,rfl,rfl⟩
    rcases zb7 hr ha hl with⟨rfl,rfl⟩|⟨m',off,ver,clip,cs,rfl,q1,q2⟩
    ·simp only[zb3,hs,hd,he]
    ·simp only[U.sz,yU] at q1
     simp only[zb3,hs,hd,he,U.sz,q1,q2.bytes,zfh]
   ·cases h
  ·cases h
 ·rename_i t0 el loc n hs hd
  split at h
  ·rename_i u l k he hb
   split at h
   ·rename_i hc
    simp only[ye] at hc
    obtain⟨hk,hsd,hlt⟩:=hc
    cases zj hk
    cases zj hsd
    simp only[yd,yh] at h;obtain⟨hl,rfl,rfl⟩:=h
    have hl:=kS hl
    obtain⟨hone,o,ho,hc⟩:=ha
    have hQ:=(hc _ _ _ _ hb).2 rfl
    have hB:=hr.blk _ _ _ hb ho
    cases o with
    |none=>obtain⟨_,h0⟩:=hQ;omega
    |some p=>
     obtain⟨m,ver⟩:=p
     cases(show x=_ from hQ)
     obtain⟨cells,minv,tt,q1,q2,q3,q4⟩:=hB
     rw[zpc hlt] at q1
     have q1:X.h[m]?=some (.row cells ver minv 0 false tt):=q1
     have hm:=hr.lt _ _ _ ho
     have hte:t0=el:=by rw[hs] at hd;cases hd;rfl
     subst hte
     refine⟨_,X.h.set m (.row cells ver minv 0 false none),?_,⟨X.h.set m (.row cells ver minv 0 false none),X.Φ,X.σ,X.sh⟩,?_,rfl,rfl,hone,some (m,ver),ho,fun u2 l2 k2 md2 hb2=>?_⟩
     ·simp only[zb3,hs,hd,he,q1]
      rw[if_pos trivial,if_pos ⟨q2,hl⟩]
     ·refine Stp.turn hr hb ho (b':=.seq u l n 0) (by simp) (fun m' hm' hne=>Arr.zY fun e=>hne ver (e ▸ rfl)) (fun _ _ _=>.inr rfl) (by show _<=(X.h.set _ _).length;rw[Arr.length_set];exact yb _) (fun m=>⟨.inl,fun h=>h.elim id fun h=>by cases h.1⟩) (wK ho).symm (wK hb).symm
       (fun _ _ e=>by cases e;exact⟨by show _<(X.h.set _ _).length;rw[Arr.length_set];exact hm,.inl ⟨_,rfl⟩⟩) (fun m v e=>⟨v,e⟩)
       (fun u3 l3 k3 md3 e=>by cases e;exact⟨l,n,0,rfl,yb _,fun _=>⟨rfl,rfl⟩⟩) (fun h=>h) (fun h=>h)
       fun hle=>⟨cells,minv,none,by rw[zpc hlt];exact Arr.qu hm,q2,q3.le hle.h hle.Φ,fun e=>by cases e⟩
     ·rw[hb] at hb2;cases hb2;exact⟨yb _,fun _=>rfl⟩
   ·cases h
  ·cases h
 ·rename_i t loc off lim hs hd
  split at h
  ·rename_i l md mk hb
   split at h
   ·rename_i hc
    simp only[ye] at hc
    cases h
    obtain⟨m,⟨v,hσ⟩,rfl⟩:=ha
    obtain⟨m',l',tt,e,h1,h2⟩:=hr.blk _ _ _ hb hσ
    cases e
    refine⟨_,X.h,?_,X,.refl hr,rfl,rfl,m,⟨_,hσ⟩,rfl⟩
    simp only[zb3,hs,hd,h1]
    rw[if_pos ⟨hc.1,kS hc.2,yb _⟩]
   ·cases h
  ·cases h
 ·rename_i u loc off lim hs hd
  split at h
  ·rename_i l md T hb
   split at h
   ·rename_i hc
    simp only[ye] at hc
    obtain⟨c1,c2,c3,c4⟩:=hc
    cases h
    obtain⟨m,⟨v,hσ⟩,rfl⟩:=ha
    obtain⟨m',l',tt,e,h1,h2⟩:=hr.blk _ _ _ hb hσ
    cases e
    have h1:X.h[m]?=some (.row l' 0 0 0 false (some T)):=h1
    refine⟨_,X.h,?_,X,.refl hr,rfl,rfl,m,⟨_,hσ⟩,rfl⟩
    simp only[zb3,hs,hd,h1]
    rw[if_pos ⟨zj c1,zj c2,yb _,kS c3,yk c4⟩]
   ·cases h
  ·cases h
 ·cases h
theorem zkp(hr:RH X)(he:EvR X e m){s d:TypeId}{x:Operand}{a v:SV}{sh':SH}(hx:e x=some a)(h:zuL P s d a X.sh=some (true,v,sh')):∃ rs,mop P m X.h (.convert s d x)=some rs/\SRR X (.val v sh') rs:=by
 obtain⟨p,h1,h2⟩:=he _ _ hx
 obtain⟨y,h',h3,Y,h4,h5,h6,h7⟩:=zoj hr h2 h
 exact⟨.val y h',by simp only[mop,h1,h3,rvh],Y,h4,h5,h6,h7⟩
def zoh(P:Program)(t:TypeId)(v:SV):Option SV:=match isIface P t,v with
 |false,.ifc t' v=>match yo t' t with
  |true=>some (.tup [v,.a (.bool true)])
  |false=>match ziS P t with
   |some z=>some (.tup [z,.a (.bool false)])
   |none=>none
 |false,.a .zer=>match ziS P t with
  |some z=>some (.tup [z,.a (.bool false)])
  |none=>none
 |_,_=>none
theorem zly(hr:RH X)(he:EvR X e m){x:Operand}{t t0:TypeId}{a v:SV}(hx:e x=some a)(h:zoh P t a=some v):∃ rs,mop P m X.h (.typeAssert x t0 t true)=some rs/\SRR X (.val v X.sh) rs:=by
 obtain⟨p,h1,h2⟩:=he _ _ hx
 unfold zoh at h
 have hif:isIface P t=false->∃ d,P.underlying t=some d/\∀ ms,d≠.interface ms:=fun hi=>by
  unfold isIface at hi
  split at hi
  ·cases hi
  ·cases hi
  ·rename_i h3 h4
   cases hu:P.underlying t with
   |none=>exact absurd hu h4
   |some d=>exact⟨d,rfl,fun ms e=>h3 ms (e ▸ hu)⟩
 split at h
 ·rename_i t' w hi
  obtain⟨d,hu,hd⟩:=hif hi
  obtain⟨y,rfl,h3⟩:=h2
  split at h
  ·rename_i ht
   have ht:=zj ht
   cases h
   refine⟨.val (.tup [y,.bool true]) X.h,?_,.same hr ⟨_,rfl,y,_,rfl,h3,_,_,rfl,rfl,rfl⟩⟩
   simp only[mop,h1,hu]
   cases d<;>first|exact absurd rfl (hd _)|rw[if_pos ht]
  ·rename_i ht
   have ht:¬ t'=t:=fun e=>by rw[e,Nat.beq_refl] at ht;cases ht
   split at h
   ·rename_i z hz
    cases h
    obtain⟨zx,h4,h5⟩:=kf (X:=X) hz
    refine⟨.val (.tup [zx,.bool false]) X.h,?_,.same hr ⟨_,rfl,zx,_,rfl,h5,_,_,rfl,rfl,rfl⟩⟩
    simp only[mop,h1,hu]
    cases d<;>first|exact absurd rfl (hd _)|rw[if_neg ht,h4]
   ·cases h
 ·rename_i hi
  obtain⟨d,hu,hd⟩:=hif hi
  cases(show p=_ from h2)
  split at h
  ·rename_i z hz
   cases h
   obtain⟨zx,h4,h5⟩:=kf (X:=X) hz
   refine⟨.val (.tup [zx,.bool false]) X.h,?_,.same hr ⟨_,rfl,zx,_,rfl,h5,_,_,rfl,rfl,rfl⟩⟩
   simp only[mop,h1,hu]
   cases d<;>first|exact absurd rfl (hd _)|rw[h4]
  ·cases h
 ·cases h
def zxD:TypeDesc->SV->SV->Option Bool
 |.int .u8,.u8 a,.u8 b=>some (a==b)
 |.int _,.a (.int k x),.a (.int k' y)=>if k=k' then some (x==y) else none
 |.string,.a (.str a),.a (.str b)=>some (a==b)
 |.bool,.a (.bool a),.a (.bool b)=>some (a==b)
 |_,_,_=>none
theorem zow{d:TypeDesc}{a b:SV}{x y:AV}{r:Bool}(ha:RV X a x)(hb:RV X b y)(h:zxD d a b=some r):zmn d x y=some r:=by
 unfold zxD at h
 split at h
 ·cases h;cases(show x=_ from ha);cases(show y=_ from hb);simp only[zmn,if_true,u8c]
 ·cases(show x=_ from ha);cases(show y=_ from hb);exact h
 ·cases(show x=_ from ha);cases(show y=_ from hb);exact h
 ·cases(show x=_ from ha);cases(show y=_ from hb);exact h
 ·cases h
def zpw:TypeDesc->SV->Bool
 |.int .u8,.u8 _=>true
 |.int k,.a (.int k' _)=>k'==k
 |.string,.a (.str _)=>true
 |.bool,.a (.bool _)=>true
 |_,_=>false
theorem zg8{d:TypeDesc}{a:SV}{x:AV}(ha:RV X a x)(h:zpw d a=true):zl0 d x=true:=by
 unfold zpw at h
 split at h
 ·cases(show x=_ from ha);rfl
 ·cases(show x=_ from ha);exact h
 ·cases(show x=_ from ha);rfl
 ·cases(show x=_ from ha);rfl
 ·cases h
def ztm(d:TypeDesc)(k:SV):List SV->List SV->Nat->Option (List (Bool×Option (Nat×SV)))
 | [],[],_=>some [(true,none)]
 |k'::ks,v::vs,i=>match zxD d k k',ztm d k ks vs (i+1) with
  |some b,some r=>some ((b,some (i,v))::r)
  |_,_=>none
 |_,_,_=>none
def zBq(F:Option (Nat×SV)->SR)(w:Bool×Option (Nat×SV)):Bool×SR:=(w.1,F w.2)
theorem zff{d:TypeDesc}{k:SV}{x:AV}{F:Option (Nat×SV)->SR}{q:SR}(hk:RV X k x):∀ {ks vs:List SV} {es:List (AV×AV)} {i:Nat} {ws:List (Bool×Option (Nat×SV))},RVs X ks (es.map (·.1))->RVs X vs (es.map (·.2))->ztm d k ks vs i=some ws->Hit (ws.map (zBq F)) q ->
  (q=F none/\zdj d x es i=some none)\/∃ j v y,q=F (some (j,v))/\zdj d x es i=some (some (j,y))/\RV X v y
 | [],vs,es,i,ws,h1,h2,h,hh=>by
  cases vs with
  |nil=>
   cases h
   rcases hh with⟨_,rfl⟩|⟨hf,_⟩
   ·refine .inl ⟨rfl,?_⟩
    have:es=[]:=by simpa using(show es.map (·.1)=[] from h1)
    subst this;rfl
   ·cases hf
  |cons v vs=>cases h
 |k'::ks,vs,es,i,ws,h1,h2,h,hh=>by
  cases vs with
  |nil=>cases h
  |cons v vs=>
   simp only[ztm] at h
   split at h
   ·rename_i b r hb hr
    cases h
    obtain⟨x1,t1,e1,q1,q2⟩:=h1
    obtain⟨x2,t2,e2,q3,q4⟩:=h2
    cases es with
    |nil=>simp at e1
    |cons p es=>
     simp only[vL,vS] at e1 e2
     obtain⟨rfl,rfl⟩:=e1
     obtain⟨rfl,rfl⟩:=e2
     have hm:=zow hk q1 hb
     rcases hh with⟨hb',rfl⟩|⟨hb',hh⟩
     ·refine .inr ⟨i,v,p.2,rfl,?_,q3⟩
      simp only[zdj,hm]
      simp only[] at hb'
      rw[hb']
     ·rcases zff hk q2 q4 hr hh with⟨e3,e4⟩|⟨j,v',y,e3,e4,e5⟩
      ·refine .inl ⟨e3,?_⟩
       simp only[zdj,hm]
       simp only[] at hb'
       rw[hb'];exact e4
      ·refine .inr ⟨j,v',y,e3,?_,e5⟩
       simp only[zdj,hm]
       simp only[] at hb'
       rw[hb'];exact e4
   ·cases h
def zk9(v:SV)(h:SH):Option (List SV×List SV):=match v with
 |.a .zhx=>some ([],[])
 |.map loc=>match h[loc]? with
  |some (.map ks vs _)=>some (ks,vs)
  |_=>none
 |.zxP ks vs=>some (ks,vs)
 |_=>none
theorem zjo(hr:RH X){v:SV}{x:AV}{ks vs:List SV}(hv:RV X v x)(h:zk9 v X.sh=some (ks,vs)):∃ es,jD x X.h=some es/\RVs X ks (es.map (·.1))/\RVs X vs (es.map (·.2)):=by
 unfold zk9 at h
 split at h
 ·cases h;cases(show x=_ from hv);exact⟨[],rfl,rfl,rfl⟩
 ·split at h
  ·rename_i ks' vs' md hb
   cases h
   obtain⟨m,⟨ver,hσ⟩,rfl⟩:=hv
   obtain⟨m',es,e1,h1,h2,h3⟩:=hr.blk _ _ _ hb hσ
   cases e1
   exact⟨es,by simp only[jD,h1],h2,h3⟩
  ·cases h
 ·cases h
  obtain⟨m,es,rfl,_,h1,h2,h3⟩:=hv
  exact⟨es,by simp only[jD,h1],h2,h3⟩
 ·cases h
def zBb(ok:Bool)(z:SV)(h:SH):Option (Nat×SV)->SR
 |some (_,v)=>match ok with|true=>.val (.tup [v,.a (.bool true)]) h|false=>.val v h
 |none=>match ok with|true=>.val (.tup [z,.a (.bool false)]) h|false=>.val z h
def zld(P:Program)(t:TypeId)(mv k:SV)(ok:Bool)(h:SH):zlv:=
 match P.underlying t with
 |some (.map kt et)=>match P.underlying kt,ziS P et,zk9 mv h with
  |some d,some z,some (ks,vs)=>match zpw d k,ztm d k ks vs 0 with
   |true,some ws=>ws.map (zBq (zBb ok z h))
   |_,_=>[]
  |_,_,_=>[]
 |_=>[]
theorem zkQ(hr:RH X)(he:EvR X e m){t:TypeId}{om ok':Operand}{ok:Bool}{mv k:SV}{q:SR}(hm:e om=some mv)(hk:e ok'=some k)(h:Hit (zld P t mv k ok X.sh) q):∃ rs,mop P m X.h (.lookup t om ok' ok)=some rs/\SRR X q rs:=by
 obtain⟨xm,h1,h2⟩:=he _ _ hm
 obtain⟨xk,h3,h4⟩:=he _ _ hk
 suffices hs:∃ y v,q=.val v X.sh/\xP P t xm xk ok X.h=some y/\RV X v y by
  obtain⟨y,v,rfl,h5,h6⟩:=hs
  exact⟨_,by simp only[mop,h1,h3,h5,rv],.same hr h6⟩
 unfold zld at h
 split at h
 ·rename_i kt et hu
  split at h
  ·rename_i d z ks vs hd hz hes
   split at h
   ·rename_i ws hko hw
    obtain⟨zx,h5,h6⟩:=kf (X:=X) hz
    obtain⟨es,h7,h8,h9⟩:=zjo hr h2 hes
    have hko:=zg8 h4 hko
    rcases zff h4 h8 h9 hw h with⟨rfl,h10⟩|⟨j,v,y,rfl,h10,h11⟩
    ·cases ok with
     |true=>exact⟨_,_,rfl,by simp only[xP,hu,hd,h5,h7,if_pos hko,h10];rfl,_,rfl,zx,_,rfl,h6,_,_,rfl,rfl,rfl⟩
     |false=>exact⟨_,_,rfl,by simp only[xP,hu,hd,h5,h7,if_pos hko,h10];rfl,h6⟩
    ·cases ok with
     |true=>exact⟨_,_,rfl,by simp only[xP,hu,hd,h5,h7,if_pos hko,h10];rfl,_,rfl,y,_,rfl,h11,_,_,rfl,rfl,rfl⟩
     |false=>exact⟨_,_,rfl,by simp only[xP,hu,hd,h5,h7,if_pos hko,h10];rfl,h11⟩
   ·cases h
  ·cases h
 ·cases h
def zcn(u:U)(v:SV):Bool:=match v with
 |.agg _=>u.agg
 |_=>!u.agg
def unF:(u:U)->List SV->Option (El u×List SV)
 |.bool,.a (.bool b)::r=>some (b,r)
 |.int k,.a (.int k' n)::r=>match decide (k=k') with
  |true=>some (n,r)
  |false=>none
 |.u8,.u8 b::r=>some (b,r)
 |.str,.a (.str l)::r=>some (l,r)
 |.sl u,.isl u' l::r=>match zbr u' u l with
  |some l=>some (l,r)
  |none=>none
 |.pair u v,vs=>match unF u vs with
  |some (x,r)=>match unF v r with
   |some (y,r')=>some ((x,y),r')
   |none=>none
  |none=>none
 |.unit,r=>some ((),r)
 |_,_=>none
theorem ztw:∀ (u:U) {vs r:List SV} {x:El u},unF u vs=some (x,r)->vs=enc u x++r
 |.bool,vs,r,x,h=>by
  match vs,h with
  |.a (.bool b)::r',h=>cases h;rfl
 |.int k,vs,r,x,h=>by
  match vs,h with
  |.a (.int k' n)::r',h=>
   simp only[unF] at h
   split at h
   ·rename_i hk
    have hk:=of_decide_eq_true hk
    subst hk
    cases h;rfl
   ·cases h
 |.u8,vs,r,x,h=>by
  match vs,h with
  |.u8 b::r',h=>cases h;rfl
 |.str,vs,r,x,h=>by
  match vs,h with
  |.a (.str l)::r',h=>cases h;rfl
 |.sl u,vs,r,x,h=>by
  match vs,h with
  |.isl u' l::r',h=>
   simp only[unF] at h
   split at h
   ·rename_i l2 hc
    obtain⟨e1,e2⟩:=jm hc
    subst e1;cases e2;cases h;rfl
   ·cases h
 |.pair u v,vs,r,x,h=>by
  simp only[unF] at h
  split at h
  ·rename_i y r1 h1
   split at h
   ·rename_i z r2 h2
    cases h
    rw[ztw u h1,ztw v h2]
    exact(yW _ _ _).symm
   ·cases h
  ·cases h
 |.unit,vs,r,x,h=>by cases h;rfl
def zwy(u:U)(v:SV):Option (El u):=match zcn u v,unF u v.cells with
 |true,some (x,[])=>some x
 |_,_=>none
theorem zh4{u:U}{v:SV}{x:El u}(h:zwy u v=some x):zm4 u x=v:=by
 unfold zwy at h
 split at h
 ·rename_i ha hu
  cases h
  have:=ztw u hu
  rw[vp] at this
  cases u with
  |pair a b=>
   cases v<;>first|(simp [zcn,U.agg] at ha;done)|skip
   exact congrArg SV.agg this.symm
  |unit=>
   cases v<;>first|(simp [zcn,U.agg] at ha;done)|skip
   exact congrArg SV.agg this.symm
  |bool=>cases v<;>first|(simp [zcn,U.agg] at ha;done)|(simp [SV.cells,enc] at this<;>first|(subst this;rfl)|rfl)
  |int k=>cases v<;>first|(simp [zcn,U.agg] at ha;done)|(simp [SV.cells,enc] at this<;>first|(subst this;rfl)|rfl)
  |u8=>cases v<;>first|(simp [zcn,U.agg] at ha;done)|(simp [SV.cells,enc] at this<;>first|(subst this;rfl)|rfl)
  |str=>cases v<;>first|(simp [zcn,U.agg] at ha;done)|(simp [SV.cells,enc] at this<;>first|(subst this;rfl)|rfl)
  |sl a=>cases v<;>first|(simp [zcn,U.agg] at ha;done)|(simp [SV.cells,enc] at this<;>(obtain⟨rfl,this⟩:=this;cases this;rfl))
 ·cases h
def zvI(d:TypeDesc)(u:U):Bool:=match d,u with
 |.int .u8,.u8=>true
 |.int k,.int k'=>k'==k
 |.string,.str=>true
 |.bool,.bool=>true
 |_,_=>false
def zqp:(u:U)->El u->El u->Bool
 |.bool,(a:Bool),b=>a==b
 |.int _,(a:Int),b=>a==b
 |.u8,(a:UInt8),b=>a==b
 |.str,(a:List UInt8),b=>a==b
 |_,_,_=>false
def zcQ(u v:U):List (El u×El v)->El u->Option (El v)
 | [],_=>none
 |p::l,k=>cond (zqp u k p.1) (some p.2) (zcQ u v l k)
def zl2(u v:U):List (El u×El v)->El u->El v->List (El u×El v)
 | [],k,x=>[(k,x)]
 |p::l,k,x=>cond (zqp u k p.1) ((k,x)::l) (p::zl2 u v l k x)
def znQ(u v:U):List (El u×El v)->El u->List (El u×El v)
 | [],_=>[]
 |p::l,k=>cond (zqp u k p.1) l (p::znQ u v l k)
theorem zkH{d:TypeDesc}{u:U}{k:El u}{x:AV}(h:zvI d u=true)(q:RV X (zm4 u k) x):zl0 d x=true:=by
 unfold zvI at h
 split at h
 ·cases(show x=_ from q);rfl
 ·cases(show x=_ from q);exact h
 ·cases(show x=_ from q);rfl
 ·cases(show x=_ from q);rfl
 ·cases h
theorem zup{d:TypeDesc}{u:U}{k k':El u}{x y:AV}(h:zvI d u=true)(h1:RV X (zm4 u k) x)(h2:RV X (zm4 u k') y):zmn d x y=some (zqp u k k'):=by
 unfold zvI at h
 split at h
 ·cases(show x=_ from h1);cases(show y=_ from h2);simp only[zmn,if_true,u8c];rfl
 ·cases(show x=_ from h1);cases(show y=_ from h2);simp only[zmn,if_true];rfl
 ·cases(show x=_ from h1);cases(show y=_ from h2);rfl
 ·cases(show x=_ from h1);cases(show y=_ from h2);rfl
 ·cases h
theorem zhQ{d:TypeDesc}{u v:U}{k:El u}{x:AV}(hd:zvI d u=true)(hk:RV X (zm4 u k) x)(w:El v):∀ (l:List (El u×El v)) (es:List (AV×AV)) (i:Nat),RVs X (kvK u v l) (es.map (·.1))->RVs X (kvV u v l) (es.map (·.2)) ->
  (zcQ u v l k=none/\zdj d x es i=some none/\zl2 u v l k w=l++[(k,w)]/\znQ u v l k=l) \/
  ∃ j z y,zcQ u v l k=some z/\zdj d x es i=some (some (i+j,y))/\RV X (zm4 v z) y/\zl2 u v l k w=l.set j (k,w)/\znQ u v l k=l.eraseIdx j
 | [],es,i,h1,h2=>by
  have:es=[]:=by simpa using(show es.map (·.1)=[] from h1)
  subst this
  exact .inl ⟨rfl,rfl,rfl,rfl⟩
 |p::l,es,i,h1,h2=>by
  obtain⟨x1,t1,e1,q1,q2⟩:=h1
  obtain⟨x2,t2,e2,q3,q4⟩:=h2
  cases es with
  |nil=>simp at e1
  |cons e es=>
   simp only[vL,vS] at e1 e2
   obtain⟨rfl,rfl⟩:=e1
   obtain⟨rfl,rfl⟩:=e2
   have hm:=zup hd hk q1
   cases hs:zqp u k p.1 with
   |true=>
    rw[hs] at hm
    refine .inr ⟨0,p.2,e.2,?_,?_,q3,?_,?_⟩
    ·simp only[zcQ,hs,cond_true]
    ·simp only[zdj,hm];rfl
    ·simp only[zl2,hs,cond_true,List.set_cons_zero]
    ·simp only[znQ,hs,cond_true,List.eraseIdx_cons_zero]
   |false=>
    rw[hs] at hm
    rcases zhQ hd hk w l es (i+1) q2 q4 with⟨a1,a2,a3,a4⟩|⟨j,z,y,a1,a2,a3,a4,a5⟩
    ·refine .inl ⟨?_,?_,?_,?_⟩
     ·simp only[zcQ,hs,cond_false,a1]
     ·simp only[zdj,hm,a2]
     ·simp only[zl2,hs,cond_false,a3,List.cons_append]
     ·simp only[znQ,hs,cond_false,a4]
    ·refine .inr ⟨j+1,z,y,?_,?_,a3,?_,?_⟩
     ·simp only[zcQ,hs,cond_false,a1]
     ·simp only[zdj,hm,a2,show i+1+j=i+(j+1) by omega]
     ·simp only[zl2,hs,cond_false,a4,List.set_cons_succ]
     ·simp only[znQ,hs,cond_false,a5,List.eraseIdx_cons_succ]
theorem zll(hr:RH X){loc:Nat}{u v:U}{l l':List (El u×El v)}{es':List (AV×AV)}{mm:Nat}(hb:X.sh[loc]?=some (.kv u v l 0))(hσ:X.σ[loc]?=some (some (mm,0)))(h1:RVs X (kvK u v l') (es'.map (·.1)))(h2:RVs X (kvV u v l') (es'.map (·.2))):
  ∃ Y,Stp X Y/\Y.sh=X.sh.set loc (.kv u v l' 0)/\Y.h=X.h.set mm (.map es'):=by
 have hlt:=hr.lt _ _ _ hσ
 refine⟨⟨X.h.set mm (.map es'),X.Φ,X.σ,X.sh.set loc (.kv u v l' 0)⟩,?_,rfl,rfl⟩
 refine Stp.turn hr hb hσ (by simp) (fun m' hm' hne=>Arr.zY fun e=>hne 0 (e ▸ rfl)) (fun _ _ _=>.inr rfl) (by show _<=(X.h.set _ _).length;rw[Arr.length_set];exact yb _)
  (fun m=>⟨.inl,fun h=>h.elim id fun h=>by cases h.1⟩) (wK hσ).symm rfl (fun m' v' e=>by cases e;exact⟨by show _<(X.h.set _ _).length;rw[Arr.length_set];exact hlt,.inl ⟨_,rfl⟩⟩) (fun m v e=>⟨v,e⟩) (fun _ _ _ _ e=>by cases e)
  (fun h=>h) (fun h=>h.elim (fun h=>by cases h) fun h=>by cases h) fun hle'=>?_
 exact⟨mm,es',rfl,Arr.qu hlt,h1.le hle',h2.le hle'⟩
def zkJ(P:Program)(t:TypeId)(u v:U)(l:List (El u×El v))(k:SV)(ok:Bool):Option SV:=match P.underlying t with
 |some (.map kt et)=>match P.underlying kt,ziS P et,zwy u k with
  |some d,some z,some k=>match zvI d u,zwy v z with
   |true,some z=>match ok with
    |true=>some (.tup [zm4 v ((zcQ u v l k).getD z),.a (.bool (zcQ u v l k).isSome)])
    |false=>some (zm4 v ((zcQ u v l k).getD z))
   |_,_=>none
  |_,_,_=>none
 |_=>none
def zyW(mv:SV)(h:SH):Option SB:=match mv with
 |.map loc=>match h[loc]? with
  |some (.kv u v l md)=>some (.kv u v l md)
  |_=>none
 |_=>none
theorem znO{mv:SV}{h:SH}{b:SB}(e:zyW mv h=some b):∃ loc,mv=.map loc/\h[loc]?=some b:=by
 unfold zyW at e
 split at e
 ·split at e
  ·rename_i h1;cases e;exact⟨_,rfl,h1⟩
  ·cases e
 ·cases e
theorem zjc(hr:RH X){t:TypeId}{u v:U}{l:List (El u×El v)}{k r:SV}{xk:AV}{ok:Bool}{loc md:Nat}{xm:AV}(hb:X.sh[loc]?=some (.kv u v l md))(hm:RV X (.map loc) xm)(hk:RV X k xk)(h:zkJ P t u v l k ok=some r):∃ y,xP P t xm xk ok X.h=some y/\RV X r y:=by
 obtain⟨m,⟨ver,hσ⟩,rfl⟩:=hm
 obtain⟨m',es,e1,h1,h2,h3⟩:=hr.blk _ _ _ hb hσ
 cases e1
 unfold zkJ at h
 split at h
 ·rename_i kt et hu
  split at h
  ·rename_i d z k' hd hz hk'
   split at h
   ·rename_i z' hko hz'
    have hk2:=zh4 hk'
    have hz2:=zh4 hz'
    subst hk2
    obtain⟨zx,h5,h6⟩:=kf (X:=X) hz
    rw[<- hz2] at h6
    have hkk:=zkH hko hk
    have he:jD (.map m) X.h=some es:=by simp only[jD,h1]
    rcases zhQ hko hk z' l es 0 h2 h3 with⟨a1,a2,_⟩|⟨j,w,y,a1,a2,a3,_⟩
    ·split at h
     ·cases h
      exact⟨.tup [zx,.bool false],by simp only[xP,hu,hd,h5,he,if_pos hkk,a2];rfl,_,rfl,zx,_,rfl,by rw[a1];exact h6,_,_,rfl,by rw[a1];rfl,rfl⟩
     ·cases h
      exact⟨_,by simp only[xP,hu,hd,h5,he,if_pos hkk,a2];rfl,by rw[a1];exact h6⟩
    ·split at h
     ·cases h
      exact⟨.tup [y,.bool true],by simp only[xP,hu,hd,h5,he,if_pos hkk,a2];rfl,_,rfl,y,_,rfl,by rw[a1];exact a3,_,_,rfl,by rw[a1];rfl,rfl⟩
     ·cases h
      exact⟨_,by simp only[xP,hu,hd,h5,he,if_pos hkk,a2];rfl,by rw[a1];exact a3⟩
   ·cases h
  ·cases h
 ·cases h
def znR(P:Program)(t:TypeId)(loc:Nat)(b:SB)(k v:SV)(h:SH):Option SH:=match b with
 |.kv uk uv l 0=>match P.underlying t with
  |some (.map kt _)=>match P.underlying kt,zwy uk k,zwy uv v with
   |some d,some k,some x=>match zvI d uk with
    |true=>some (h.set loc (.kv uk uv (zl2 uk uv l k x) 0))
    |false=>none
   |_,_,_=>none
  |_=>none
 |_=>none
theorem zkK(hr:RH X){t:TypeId}{b:SB}{k v:SV}{xm xk xv:AV}{loc:Nat}{h':SH}(hb:X.sh[loc]?=some b)(hm:RV X (.map loc) xm)(hk:RV X k xk)(hv:RV X v xv)(h:znR P t loc b k v X.sh=some h'):∃ mh,ztH P t xm xk xv X.h=some mh/\∃ Y,Stp X Y/\Y.sh=h'/\Y.h=mh:=by
 unfold znR at h
 split at h
 ·rename_i uk uv l
  obtain⟨m,⟨ver,hσ⟩,rfl⟩:=hm
  obtain⟨m',es,e1,h1,h2,h3⟩:=hr.blk _ _ _ hb hσ
  cases e1
  split at h
  ·rename_i kt et hu
   split at h
   ·rename_i d k' x' hd hk' hx'
    split at h
    ·rename_i hko
     cases h
     have e1:=zh4 hk'
     have e2:=zh4 hx'
     subst e1;subst e2
     have hkk:=zkH hko hk
     rcases zhQ hko hk x' l es 0 h2 h3 with⟨a1,a2,a3,_⟩|⟨j,w,y,a1,a2,a3,a4,_⟩
     ·obtain⟨Y,q1,q2,q3⟩:=zll (l':=l++[(k',x')]) (es':=es++[(xk,xv)]) hr hb hσ (by simp only[kvK,vt] at h2 |-;exact h2.append (.one hk)) (by simp only[kvV,vt] at h3 |-;exact h3.append (.one hv))
      exact⟨_,by simp only[ztH,hu,hd,h1,if_pos hkk,a2],Y,q1,by rw[q2,a3],q3⟩
     ·obtain⟨Y,q1,q2,q3⟩:=zll (l':=l.set j (k',x')) (es':=es.set j (xk,xv)) hr hb hσ (by simp only[kvK,vC] at h2 |-;exact h2.set j hk) (by simp only[kvV,vC] at h3 |-;exact h3.set j hv)
      exact⟨_,by simp only[ztH,hu,hd,h1,if_pos hkk,a2,yG],Y,q1,by rw[q2,a4],q3⟩
    ·cases h
   ·cases h
  ·cases h
 ·cases h
theorem RVs.eraseIdx{l:List SV}{xs:List AV}(q:RVs X l xs)(i:Nat):RVs X (l.eraseIdx i) (xs.eraseIdx i):=by
 induction l generalizing xs i with
 |nil=>cases q;exact rfl
 |cons v l ih=>obtain⟨x,t,rfl,h1,h2⟩:=q;cases i with
  |zero=>exact h2
  |succ i=>exact⟨x,t.eraseIdx i,rfl,h1,ih h2 i⟩
def zkI(P:Program)(t:TypeId)(m k:SV)(h:SH):Option SH:=match m,zyW m h with
 |.map loc,some (.kv uk uv l 0)=>match P.underlying t with
  |some (.map kt _)=>match P.underlying kt,zwy uk k with
   |some d,some k=>match zvI d uk with
    |true=>some (h.set loc (.kv uk uv (znQ uk uv l k) 0))
    |false=>none
   |_,_=>none
  |_=>none
 |_,_=>none
theorem map_eraseIdx{α β:Type}(f:α->β):∀ (l:List α) (i:Nat),(l.eraseIdx i).map f=(l.map f).eraseIdx i
 | [],_=>rfl
 |_::_,0=>rfl
 |a::l,i+1=>by simp [map_eraseIdx f l i]
theorem zjb(hr:RH X){t:TypeId}{m k:SV}{xm xk:AV}{h':SH}(hm:RV X m xm)(hk:RV X k xk)(h:zkI P t m k X.sh=some h'):∃ mh,zgy P t xm xk X.h=some mh/\∃ Y,Stp X Y/\Y.sh=h'/\Y.h=mh:=by
 unfold zkI at h
 split at h
 ·rename_i loc uk uv l hkv
  obtain⟨loc',e0,hb⟩:=znO hkv
  cases e0
  obtain⟨m,⟨ver,hσ⟩,rfl⟩:=hm
  obtain⟨m',es,e1,h1,h2,h3⟩:=hr.blk _ _ _ hb hσ
  cases e1
  split at h
  ·rename_i kt et hu
   split at h
   ·rename_i d k' hd hk'
    split at h
    ·rename_i hko
     cases h
     have e1:=zh4 hk'
     subst e1
     have hkk:=zkH hko hk
     rcases zhQ hko hk (w:=uv.zero) l es 0 h2 h3 with⟨a1,a2,_,a3⟩|⟨j,w,y,a1,a2,a3,_,a4⟩
     ·obtain⟨Y,q1,q2,q3⟩:=zll (l':=l) (es':=es) hr hb hσ h2 h3
      exact⟨_,by simp only[zgy,hu,hd,h1,if_pos hkk,a2],Y,q1,by rw[q2,a3],q3⟩
     ·obtain⟨Y,q1,q2,q3⟩:=zll (l':=l.eraseIdx j) (es':=es.eraseIdx j) hr hb hσ (by simp only[kvK,map_eraseIdx] at h2 |-;exact h2.eraseIdx j) (by simp only[kvV,map_eraseIdx] at h3 |-;exact h3.eraseIdx j)
      exact⟨_,by simp only[zgy,hu,hd,h1,if_pos hkk,a2,yG],Y,q1,by rw[q2,a4],q3⟩
    ·cases h
   ·cases h
  ·cases h
 ·cases h
def zzf(loc:Nat)(ks vs:List SV)(k v:SV)(h:SH):Option (Nat×SV)->SR
 |some (i,_)=>.unit (h.set loc (.map (ks.set i k) (vs.set i v) 0))
 |none=>.unit (h.set loc (.map (ks++[k]) (vs++[v]) 0))
def zxC(P:Program)(t:TypeId)(mv k v:SV)(h:SH):zlv:=
 match P.underlying t,mv with
 |some (.map kt _),.map loc=>match P.underlying kt,h[loc]? with
  |some d,some (.map ks vs 0)=>match zpw d k,ztm d k ks vs 0 with
   |true,some ws=>ws.map (zBq (zzf loc ks vs k v h))
   |_,_=>[]
  |_,_=>[]
 |_,_=>[]
theorem zpC(hr:RH X){loc:Nat}{ks vs ks' vs':List SV}{es':List (AV×AV)}{mm:Nat}(hb:X.sh[loc]?=some (.map ks vs 0))(hσ:X.σ[loc]?=some (some (mm,0)))(h1:RVs X ks' (es'.map (·.1)))(h2:RVs X vs' (es'.map (·.2))):
  ∃ Y,Stp X Y/\Y.sh=X.sh.set loc (.map ks' vs' 0)/\Y.h=X.h.set mm (.map es'):=by
 have hlt:=hr.lt _ _ _ hσ
 refine⟨⟨X.h.set mm (.map es'),X.Φ,X.σ,X.sh.set loc (.map ks' vs' 0)⟩,?_,rfl,rfl⟩
 refine Stp.turn hr hb hσ (by simp) (fun m' hm' hne=>Arr.zY fun e=>hne 0 (e ▸ rfl)) (fun _ _ _=>.inr rfl) (by show _<=(X.h.set _ _).length;rw[Arr.length_set];exact yb _)
  (fun m=>⟨.inl,fun h=>h.elim id fun h=>by cases h.1⟩) (wK hσ).symm rfl (fun m' v' e=>by cases e;exact⟨by show _<(X.h.set _ _).length;rw[Arr.length_set];exact hlt,.inl ⟨_,rfl⟩⟩) (fun m v e=>⟨v,e⟩) (fun _ _ _ _ e=>by cases e)
  (fun h=>h) (fun h=>h.elim (fun h=>by cases h) fun h=>by cases h) fun hle'=>?_
 exact⟨mm,es',rfl,Arr.qu hlt,h1.le hle',h2.le hle'⟩
theorem zov(hr:RH X){t:TypeId}{mv k v:SV}{xm xk xv:AV}{q:SR}(h2:RV X mv xm)(h4:RV X k xk)(h6:RV X v xv)(h:Hit (zxC P t mv k v X.sh) q):∃ h' sh',ztH P t xm xk xv X.h=some h'/\q=.unit sh'/\∃ Y,Stp X Y/\Y.sh=sh'/\Y.h=h':=by
 unfold zxC at h
 split at h
 ·rename_i kt et loc hu
  split at h
  ·rename_i d ks vs hd hb
   split at h
   ·rename_i ws hko hw
    obtain⟨mm,⟨ver,hσ⟩,rfl⟩:=h2
    obtain⟨m',es,e1,h7,h8,h9⟩:=hr.blk _ _ _ hb hσ
    cases e1
    have hko:=zg8 h4 hko
    rcases zff h4 h8 h9 hw h with⟨rfl,h10⟩|⟨j,v',y,rfl,h10,h11⟩
    ·obtain⟨Y,h12,h13,h14⟩:=zpC (es':=es++[(xk,xv)]) hr hb hσ (ks':=ks++[k]) (vs':=vs++[v]) (by rw[vt];exact h8.append (.one h4)) (by rw[vt];exact h9.append (.one h6))
     exact⟨_,_,by simp only[ztH,hu,hd,h7,if_pos hko,h10],rfl,Y,h12,h13,h14⟩
    ·obtain⟨Y,h12,h13,h14⟩:=zpC (es':=es.set j (xk,xv)) hr hb hσ (ks':=ks.set j k) (vs':=vs.set j v) (by rw[vC];exact h8.set j h4) (by rw[vC];exact h9.set j h6)
     exact⟨_,_,by simp only[ztH,hu,hd,h7,if_pos hko,h10],rfl,Y,h12,h13,h14⟩
   ·cases h
  ·cases h
 ·cases h
def zot(P:Program)(t:TypeId)(mv k:SV)(ok:Bool)(h:SH):zlv:=match zyW mv h with
 |some (.kv u v l _)=>zph h (zkJ P t u v l k ok)
 |_=>zld P t mv k ok h
theorem zl8(hr:RH X)(he:EvR X e m){t:TypeId}{om ok':Operand}{ok:Bool}{mv k:SV}{q:SR}(hm:e om=some mv)(hk:e ok'=some k)(h:Hit (zot P t mv k ok X.sh) q):∃ rs,mop P m X.h (.lookup t om ok' ok)=some rs/\SRR X q rs:=by
 unfold zot at h
 split at h
 ·rename_i u v l md hkv
  obtain⟨loc,rfl,hb⟩:=znO hkv
  obtain⟨r,h1,rfl⟩:=zfI h
  obtain⟨xm,h2,h3⟩:=he _ _ hm
  obtain⟨xk,h4,h5⟩:=he _ _ hk
  obtain⟨y,h6,h7⟩:=zjc hr hb h3 h5 h1
  exact⟨_,by simp only[mop,h2,h4,h6,rv],.same hr h7⟩
 ·exact zkQ hr he hm hk h
def zAp(P:Program)(t:TypeId)(mv k v:SV)(h:SH):zlv:=match mv,zyW mv h with
 |.map loc,some b=>match znR P t loc b k v h with
  |some h'=>[(true,.unit h')]
  |none=>[]
 |_,_=>zxC P t mv k v h
theorem zj3(hr:RH X){t:TypeId}{mv k v:SV}{xm xk xv:AV}{q:SR}(h2:RV X mv xm)(h4:RV X k xk)(h6:RV X v xv)(h:Hit (zAp P t mv k v X.sh) q):∃ h' sh',ztH P t xm xk xv X.h=some h'/\q=.unit sh'/\∃ Y,Stp X Y/\Y.sh=sh'/\Y.h=h':=by
 unfold zAp at h
 split at h
 ·rename_i loc b hkv
  obtain⟨loc',e0,hb⟩:=znO hkv
  cases e0
  split at h
  ·rename_i h' hs
   rcases h with⟨_,rfl⟩|h
   ·obtain⟨mh,q1,Y,q2,q3,q4⟩:=zkK hr hb h2 h4 h6 hs
    exact⟨mh,h',q1,rfl,Y,q2,q3,q4⟩
   ·exact absurd h.2 id
  ·cases h
 ·exact zov hr h2 h4 h6 h
end
end Go.Sx
namespace Go.Sx
open Go Go.Gx Go.Mx
variable [kF]
def U.zcv:U->List AV
 |.bool=>[.bool false]
 |.int k=>[.int k 0]
 |.u8=>[.int .u8 0]
 |.str=>[.str []]
 |.sl _=>[.qC]
 |.pair a b=>a.zcv++b.zcv
 |.unit=>[]
theorem RE.zero{h:zg}{Φ:Nat->Prop}:∀ {u:U},RE h Φ u u.zero u.zcv
 |.bool=>rfl
 |.int _=>rfl
 |.u8=>rfl
 |.str=>rfl
 |.sl _=>⟨_,rfl,.inl ⟨rfl,rfl⟩⟩
 |.pair _ _=>⟨_,_,rfl,RE.zero,RE.zero⟩
 |.unit=>rfl
theorem zbA{u:U}:u.zcv.length=u.sz:=(RE.zero (h:=Arr.nil) (Φ:=fun _=>False) (u:=u)).length
def zwJ(P:Program)(e:TypeId)(u:U):Bool:=match P.info? e with
 |some i=>match i.zero with
  |some z=>match ofConst z with
   |some x=>yo i.size u.sz&&yQ i.bytes 256&&ym 0 i.size&&yo z.cells.size i.size&&AV.zoJ x.cells u.zcv
   |none=>false
  |none=>false
 |none=>false
structure zBt(P:Program)(e:TypeId)(u:U)(i:TypeInfo)(z:Value)(x:AV):Prop where
 info:P.info? e=some i
 zero:i.zero=some z
 zo:zeroOf P e=some x
 size:i.size=u.sz
 bytes:i.bytes<=256
 pos:0<u.sz
 zc:z.cells.size=i.size
 xc:x.cells=u.zcv
 sz:zcC P e=some u.sz
theorem zbt{P:Program}{e:TypeId}{u:U}(h:zwJ P e u=true):∃ i z x,zBt P e u i z x:=by
 unfold zwJ at h
 split at h
 ·rename_i i hi
  split at h
  ·rename_i z hz
   split at h
   ·rename_i x hx
    simp only[ye] at h
    obtain⟨⟨⟨⟨h1,h2⟩,h3⟩,h4⟩,h5⟩:=h
    have h1:=zj h1
    exact⟨i,z,x,hi,hz,by simp only[zeroOf,hi,hz,hx],h1,yk h2,by have:=kS h3;omega,zj h4,AV.zdR _ _ h5,by simp only[zcC,hi,h1]⟩
   ·cases h
  ·cases h
 ·cases h
section
variable {P:Program} {gl:GL} {X:Gst} {e:Operand->Option SV} {m:Operand->Option AV}
def zw9(P:Program)(t:TypeId):Option TypeId:=match P.underlying t with
 |some (.struct fs)=>match fs.toList with
  |f::_=>match P.underlying f.type with
   |some (.pointer u)=>match yo u t with
    |true=>some t
    |false=>none
   |_=>none
  | []=>none
 |_=>none
theorem zrW(P:Program)(t:TypeId):(zw9 P t).or (some t)=some t:=by
 unfold zw9
 repeat' split
 all_goals rfl
theorem zjS(hr:RH X){l:List SV}{l':List AV}{tt:Option TypeId}(mk:Option TypeId:=none)(hk:mk.or tt=tt:=by rfl)(hc:RVs X l l'):∃ Y,Stp X Y/\Y.sh=X.sh++[.cells l 0 mk]/\Y.h=X.h++[Blk.row l' 0 0 0 false tt]/\Y.at X.sh.length X.h.length:=by
 refine⟨_,Stp.push hr (b:=.cells l 0 mk) (blk:=.row l' 0 0 0 false tt) (by simp [SB.md]) (fun hle=>⟨X.h.length,l',tt,rfl,?_,hc.le hle⟩),rfl,rfl,0,?_⟩
 ·show(X.h++[_])[X.h.length]?=_
  rw[hk,Arr.z7 (yb _),yC];rfl
 ·show(X.σ++[_])[X.sh.length]?=_
  rw[<- hr.len,yi (yb _),yC];rfl
def zvZ(mk:Option TypeId)(v:SV)(h:SH):Option (SV×SH):=match v.whole with
 |true=>some (.ptr h.length 0 v.cells.length,h++[.cells v.cells 0 mk])
 |false=>none
theorem zjW(hr:RH X){v w:SV}{x:AV}{sh':SH}(t:TypeId){mk:Option TypeId}(hk:mk.or (some t)=some t)(hv:RV X v x)(h:zvZ mk v X.sh=some (w,sh')):∃ Y,Stp X Y/\Y.sh=sh'/\Y.h=zd5 X.h x.cells t/\RV Y w (.ptr X.h.length 0 0 x.cells.length):=by
 unfold zvZ at h
 split at h
 ·rename_i hw
  cases h
  have hc:=hv.ziW hw
  obtain⟨Y,h1,h2,h3,h4⟩:=zjS hr (tt:=some t) mk hk hc
  exact⟨Y,h1,h2,h3,X.h.length,h4,by rw[hc.length]⟩
 ·cases h
def zoF(P:Program)(t:TypeId)(h:SH):Option (SV×SH):=match P.underlying t with
 |some (.array n e)=>match uOf P 6 e,zeroOf P t with
  |some u,some z=>match(match u with|.u8=>true|.int _=>true|_=>false)&&yQ 8 n&&AV.zoJ z.cells (kl u.zcv (n*u.sz)) with
   |true=>some (.zpK h.length 0 n,h++[.seq u (yn n u.zero) 0 0])
   |false=>none
  |_,_=>none
 |_=>none
def zsT(P:Program)(t:TypeId)(h:SH):Option (Bool×SV×SH):=match zoF P t h with
 |some (v,h')=>some (true,v,h')
 |none=>match ziS P t with
  |some z=>match zvZ (zw9 P t) z h with
   |some (v,h')=>some (true,v,h')
   |none=>none
  |none=>none
theorem zqW(hr:RH X)(he:EvR X e m){t:TypeId}{o:Operand}{a v:SV}{sh':SH}(ho:e o=some a)(h:zvZ none a X.sh=some (v,sh')):∃ rs,mop P m X.h (.box t o)=some rs/\SRR X (.val v sh') rs:=by
 obtain⟨p,h1,h2⟩:=he _ _ ho
 obtain⟨Y,h5,h6,h7,h8⟩:=zjW hr t rfl h2 h
 exact⟨.val _ _,by simp only[mop,h1],Y,h5,h6,h7,h8⟩
theorem zkS(hr:RH X){t:TypeId}:∃ rs,mop P m X.h (.makeMap t none)=some rs/\SRR X (.val (.map X.sh.length) (X.sh++[.map [] [] 0])) rs:=by
 refine⟨.val (.map X.h.length) (X.h++[Blk.map []]),rfl,_,Stp.push hr (b:=.map [] [] 0) (blk:=.map []) (by simp [SB.md]) (fun hle=>⟨X.h.length,[],rfl,?_,rfl,rfl⟩),rfl,rfl,X.h.length,⟨0,?_⟩,rfl⟩
 ·show(X.h++[_])[X.h.length]?=_
  rw[Arr.z7 (yb _),yC];rfl
 ·show(X.σ++[_])[X.sh.length]?=_
  rw[<- hr.len,yi (yb _),yC];rfl
theorem RCs.zvn{h:zg}{Φ:Nat->Prop}{u:U}(hp:0<u.sz)(k:Nat):RCs h Φ u (yn k u.zero) (kl u.zcv (k*u.sz)):=by
 have hz:=zbA (u:=u)
 refine⟨by simp [kl],fun i e hi=>?_⟩
 rw[vN] at hi
 split at hi
 ·rename_i hik
  cases hi
  have:part u.sz (kl u.zcv (k*u.sz)) i=u.zcv:=by
   have hm:i*u.sz+u.sz<=k*u.sz:=by rw[<- yv];exact yj _ hik
   refine yV fun j=>?_
   unfold kl
   rw[jE,yR]
   split
   ·rename_i hj
    rw[yS,yL,List.getElem?_range (by omega),hz,Nat.mul_comm]
    simp only[Option.map_some]
    rw[Nat.mul_add_mod,Nat.mod_eq_of_lt hj]
    show some (u.zcv.getD j _)=_
    rw[yP,yf (by omega)];rfl
   ·rw[vv (by omega)]
  rw[this];exact .zero
 ·cases hi
theorem znc(hr:RH X){t:TypeId}{v:SV}{sh':SH}(h:zsT P t X.sh=some (true,v,sh')):∃ rs,mop P m X.h (.alloc t)=some rs/\SRR X (.val v sh') rs:=by
 unfold zsT at h
 split at h
 ·rename_i w h2 ha
  cases h
  unfold zoF at ha
  split at ha
  ·rename_i n el hu
   split at ha
   ·rename_i u z hu6 hz
    split at ha
    ·rename_i hall
     cases ha
     simp only[ye] at hall
     obtain⟨⟨hpl,_⟩,hb⟩:=hall
     have hb:=AV.zdR _ _ hb
     have hp:0<u.sz:=by cases u<;>first|(cases hpl;done)|exact Nat.one_pos
     have hlen:z.cells.length=n*u.sz:=by rw[hb];simp [kl]
     have hg1:(X.h++[Blk.row z.cells 0 0 0 false (some t)])[X.h.length]?=some (.row z.cells 0 0 0 false (some t)):=by rw[Arr.z7 (yb _),yC];rfl
     refine⟨.val (.ptr X.h.length 0 0 z.cells.length) (zd5 X.h z.cells t),by simp only[mop,hz],_,Stp.push hr (b:=.seq u (yn n u.zero) 0 0) (blk:=.row z.cells 0 0 0 false (some t)) (by simp [SB.md]) (fun hle=>⟨z.cells,0,some t,hg1,yb _,hb ▸ RCs.zvn hp n,fun e=>by cases e⟩),rfl,rfl,rfl,some (X.h.length,0),?_,fun u' l' k' md' hb'=>?_⟩
     ·show(X.σ++[_])[X.sh.length]?=_
      rw[<- hr.len,yi (yb _),yC];rfl
     ·have hb':(X.sh++[SB.seq u (yn n u.zero) 0 0])[X.sh.length]?=some (.seq u' l' k' md'):=hb'
      rw[yi (yb _),yC] at hb'
      cases hb'
      exact⟨yb _,fun _=>⟨by simp,X.h.length,rfl,by rw[hlen]⟩⟩
    ·cases ha
   ·cases ha
  ·cases ha
 split at h
 ·rename_i z hz
  split at h
  ·rename_i w h2 hb
   cases h
   obtain⟨x,h3,h4⟩:=kf (X:=X) hz
   obtain⟨Y,h5,h6,h7,h8⟩:=zjW hr t (zrW P t) h4 hb
   exact⟨.val _ _,by simp only[mop,h3],Y,h5,h6,h7,h8⟩
  ·cases h
 ·cases h
def zgM(P:Program)(t:TypeId)(l c:SV)(h:SH):Option (Bool×SV×SH):=
 match P.underlying t,l,c with
 |some (.slice e),.a (.int _ l),.a (.int _ c)=>match uOf P 6 e with
  |some u=>match zwJ P e u with
   |true=>some ((decide (c<=l)||(decide (l<=0)||decide (64<c)))&&(decide (0<=l)&&decide (l<=c)&&decide (c<549755813888)),.gs h.length 0,h++[.seq u (yn l.toNat u.zero) 0 0])
   |false=>none
  |none=>none
 |_,_,_=>none
theorem zix(hr:RH X)(he:EvR X e m){t:TypeId}{ol oc:Operand}{l c v:SV}{sh':SH}(hl:e ol=some l)(hc:e oc=some c)(h:zgM P t l c X.sh=some (true,v,sh')):∃ rs,mop P m X.h (.makeSlice t ol oc)=some rs/\SRR X (.val v sh') rs:=by
 obtain⟨xl,h1,h2⟩:=he _ _ hl
 obtain⟨xc,h3,h4⟩:=he _ _ hc
 unfold zgM at h
 split at h
 ·rename_i el k1 n k2 c hu
  cases(show xl=_ from h2);cases(show xc=_ from h4)
  split at h
  ·rename_i u hu6
   split at h
   ·rename_i hel
    simp only[yd,yh,ye,vG,decide_eq_true_eq] at h
    obtain⟨⟨q0,⟨q1,q2⟩,q3⟩,rfl,rfl⟩:=h
    have hmk:znZ n.toNat c.toNat=n.toNat:=if_neg (by omega)
    obtain⟨i,z,x,E⟩:=zbt hel
    obtain⟨Y,h5,h6,h7,h8⟩:=zes hr (u:=u) (l:=yn n.toNat u.zero) (tt:=some el) (hc:=RCs.zvn E.pos n.toNat)
    rw[vQ] at h8
    refine⟨.val _ _,?_,Y,h5,h6,h7,h8⟩
    simp only[mop,h1,h3,zgA,hu,E.info,E.zo,hmk]
    rw[if_pos ⟨q1,q2,q3,E.bytes,by rw[E.size];exact E.pos,by rw[E.xc,zbA,E.size]⟩,E.xc,E.size]
    rfl
   ·cases h
  ·cases h
 ·cases h
theorem RCs.flat{u:U}{l:List (El u)}:∀ {cs:List AV},RCs X.h X.Φ u l cs->RVs X (l.flatMap (enc u)) cs:=by
 induction l with
 |nil=>intro cs q;have:=q.1;simp at this;subst this;rfl
 |cons a l ih=>
  intro cs q
  have hl:=q.1
  rw[ve,yv] at hl
  have h0:=q.2 0 a rfl
  rw[jE,vj,yO] at h0
  rw[List.flatMap_cons,<- vu u.sz cs]
  refine(zak h0).append (ih ⟨by rw[yD];omega,fun i e hi=>?_⟩)
  have:=q.2 (i+1) e hi
  rw[jE,yv] at this
  rw[jE,yz,uh]
  exact this
def ztn(z:List SV)(n:Nat):List SV:=(vd n).map fun i=>z.getD (i % z.length) .top
theorem zmX{zs:List SV}{xs:List AV}(q:RVs X zs xs)(hp:0<zs.length)(n:Nat):RVs X (ztn zs n) (kl xs n):=by
 have hl:=q.length
 have key:∀ i,RV X (zs.getD (i % zs.length) .top) (xs.getD (i % xs.length) .undef):=fun i=>by
  have hi:=Nat.mod_lt i hp
  obtain⟨x,h1,h2⟩:=q.get (yf hi)
  rw[hl,yP,yf hi,yP,h1]
  exact h2
 unfold ztn kl
 generalize vd n=l
 induction l with
 |nil=>rfl
 |cons a l ih=>exact⟨_,_,rfl,key a,ih⟩
def zfd(P:Program)(t:TypeId)(len:Nat)(parts:List (Nat×SV))(h:SH):Option (Bool×SV×SH):=
 match P.underlying t with
 |some (.slice e)=>match uOf P 6 e with
  |some u=>match zwJ P e u&&yQ (len*u.sz) (2 ^ 24) with
   |true=>match zoo (fun i=>some (i*u.sz,u.sz)) ((yn len u.zero).flatMap (enc u)) parts with
    |some cs=>match zxO u len cs h with
     |some (l,h')=>some (true,.gs h'.length 0,h'++[.seq u l 0 0])
     |none=>none
    |none=>none
   |false=>none
  |none=>match zcC P e,ziS P e with
   |some (k+1),some z=>match z.whole&&yo z.cells.length (k+1)&&yQ (len*(k+1)) (2 ^ 24) with
    |true=>match zoo (fun i=>some (i*(k+1),k+1)) (ztn z.cells (len*(k+1))) parts with
     |some cs=>some (true,.csl h.length 0 len (k+1),h++[.cells cs 0])
     |none=>none
    |false=>none
   |_,_=>none
 |_=>none
theorem zhr(hr:RH X)(he:EvR X e m){t:TypeId}{len:Nat}{parts:Array (Nat×Operand)}{ps:List (Nat×SV)}{v:SV}{sh':SH}(hp:ziQ e parts.toList=some ps)(h:zfd P t len ps X.sh=some (true,v,sh')):∃ rs,mop P m X.h (.buildSlice t len parts)=some rs/\SRR X (.val v sh') rs:=by
 obtain⟨qs,h1,h2⟩:=zg9 he hp
 unfold zfd at h
 split at h
 ·rename_i el hu
  split at h
  ·rename_i u hu6
   split at h
   ·rename_i hb
    simp only[ye] at hb
    obtain⟨i,z,x,E⟩:=zbt hb.1
    have hlen:=yk hb.2
    split at h
    ·rename_i cs hcs
     split at h
     ·rename_i l h' hd
      cases h
      obtain⟨r',q1,q2⟩:=zdr ((RCs.zvn E.pos len).flat) h2 hcs
      obtain⟨Y,S1,hh,hs,hll,hR⟩:=zjw u len hr q2 hd
      obtain⟨Z,h5,h6,h7,h8⟩:=zes S1.hr (tt:=some el) (hc:=hR)
      rw[hs] at h6 h8
      rw[hh] at h7 h8
      rw[hll] at h8
      refine⟨.val _ _,?_,Z,S1.trans h5,h6,h7,h8⟩
      have hpos:=E.pos
      obtain⟨n,hn⟩:∃ n,u.sz=n+1:=⟨u.sz-1,by omega⟩
      have hsz:=E.sz
      rw[hn] at hsz q1
      simp only[mop,h1,zdi,hu,hsz,E.zo]
      rw[if_pos ⟨by rw[<- hn];exact hlen,by rw[E.xc,zbA,hn]⟩,E.xc]
      simp only[q1,rvh]
      rw[hn];rfl
     ·cases h
    ·cases h
   ·cases h
  ·rename_i hu6
   split at h
   ·rename_i k z hk hz
    split at h
    ·rename_i hb
     simp only[ye] at hb
     split at h
     ·rename_i cs hcs
      cases h
      obtain⟨x,hx1,hx2⟩:=kf (X:=X) hz
      have hc:=hx2.ziW hb.1.1
      have hlen:z.cells.length=k+1:=zj hb.1.2
      obtain⟨r',q1,q2⟩:=zdr (zmX hc (by omega) (len*(k+1))) h2 hcs
      obtain⟨Y,h5,h6,h7,h8⟩:=zjS hr (tt:=some el) (hc:=q2)
      refine⟨.val (.sl X.h.length 0 len (k+1) 0 false) (zd5 X.h r' el),?_,Y,h5,h6,h7,X.h.length,h8,rfl⟩
      simp only[mop,h1,zdi,hu,hk,hx1]
      rw[if_pos ⟨yk hb.2,by rw[hc.length];exact hlen⟩]
      simp only[q1,rvh]
     ·cases h
    ·cases h
   ·cases h
 ·cases h
def zu2(P:Program)(t2:TypeId)(u:U)(x:SV)(h:SH):Option (List (El u)):=match P.underlying t2 with
 |some .string=>match x with
  |.a (.str l)=>zbr .u8 u l
  |_=>none
 |some (.slice _)=>reads u x h
 |_=>none
theorem zb8(hr:RH X){t2:TypeId}{u:U}{v:SV}{x:AV}{l:List (El u)}(hv:RV X v x)(h:zu2 P t2 u v X.sh=some l):
  ∃ xs,RCs X.h X.Φ u l xs/\zuq P t2 u.sz x X.h=some (xs,l.length):=by
 unfold zu2 at h
 split at h
 ·rename_i hu
  split at h
  ·rename_i s
   cases(show x=_ from hv)
   obtain⟨e1,e2⟩:=jm h
   subst e1;cases e2
   exact⟨_,.ofBytes s,by simp only[zuq,hu,U.sz,if_true]⟩
  ·cases h
 ·rename_i el hu
  rcases zb7 hr hv h with⟨rfl,rfl⟩|⟨m',off,ver,clip,cs,rfl,q1,q2⟩
  ·exact⟨[],.nil,by simp only[zuq,hu];rfl⟩
  ·exact⟨cs,q2,by simp only[zuq,hu,if_true,q1]⟩
 ·cases h
theorem RCs.zmu{h:zg}{Φ:Nat->Prop}{u:U}:∀ {l:List (El u)} {cs:List AV},RCs h Φ u l cs->cs.all AV.one=true:=by
 intro l
 induction l with
 |nil=>intro cs q;have:=q.1;simp at this;subst this;rfl
 |cons a l ih=>
  intro cs q
  have hl:=q.1
  rw[ve,yv] at hl
  have h0:=q.2 0 a rfl
  rw[jE,vj,yO] at h0
  rw[<- vu u.sz cs,vZ,h0.one,ih ⟨by rw[yD];omega,fun i e hi=>?_⟩];rfl
  have:=q.2 (i+1) e hi
  rw[jE,yv] at this
  rw[jE,yz,uh]
  exact this
theorem ze3{t t2:TypeId}{el:TypeId}{u:U}{i:TypeInfo}{z:Value}{x0:AV}(hu:P.underlying t=some (.slice el))(E:zBt P el u i z x0){s x:AV}{h:zg}{xs:List AV}{k:Nat}(hs:zuq P t2 u.sz x h=some (xs,k)):zgw P t t2 s x h=Mx.app h el s u.sz xs k:=by
 unfold zuq at hs
 simp only[zgw,hu,E.info,E.zero]
 rw[if_pos ⟨E.zc,E.bytes⟩,E.size]
 split at hs
 ·rename_i hu2;cases hs;rfl
 ·rename_i hu2
  split at hs
  ·rename_i hz
   split at hs
   ·rename_i cs hc;cases hs;subst hz;rw[if_pos rfl]
   ·cases hs
  ·cases hs
 ·rename_i hu2
  split at hs
  ·rename_i hz;cases hs;rw[if_pos hz,hz]
  ·cases hs
 ·cases hs
def zog(P:Program)(t t2:TypeId)(s x:SV)(h:SH):zlv:=
 match P.underlying t with
 |some (.slice e)=>match uOf P 6 e with
  |some u=>match zwJ P e u,zu2 P t2 u x h,s with
   |true,some xs,.a .qC=>one (ym xs.length zG) (.gs h.length (mk0 u e)) (h++[.seq u xs (mk0 u e) 0])
   |true,some xs,.gs loc n=>match h[loc]? with
    |some (.seq u' l k 0)=>match yo k n&&mkA n e,zbr u' u l with
     |true,some l=>one (ym (l.length+xs.length) zG) (.gs loc (n+1)) (h.set loc (.seq u (l++xs) (n+1) 0))
     |_,_=>[]
    |_=>[]
   |true,some xs,.cl u' []=>match decide (u'=u) with
    |true=>[(yo xs.length 0,.val (.isl u []) h),(ym xs.length zG,.val (.gs h.length 0) (h++[.seq u xs 0 0]))]
    |false=>[]
   |_,_,_=>[]
  |none=>[]
 |_=>[]
theorem zsA(hr:RH X){el:TypeId}{u:U}{l:List (El u)}{xs:List AV}(n:Nat)(hn:(mkS n).or (some el)=some el)(hR:RCs X.h X.Φ u l xs)(hp:0<u.sz)(hl:ym l.length zG=true):
  ∃ y h',Mx.app X.h el .qC u.sz xs l.length=some (y,h')/\∃ Y,Stp X Y/\Y.sh=X.sh++[.seq u l n 0]/\Y.h=h'/\RV Y (.gs X.sh.length n) y:=by
 by_cases h0:l.length=0
 ·have hl0:l=[]:=yy.1 h0
  subst hl0
  refine⟨.qC,X.h,?_,_,Stp.zze hr (b:=.seq u [] n 0) (by simp [SB.md]) (fun _=>rfl),rfl,rfl,rfl,none,?_,fun u' l' k' md' hb'=>?_⟩
  ·unfold Mx.app;rw[if_pos ⟨hR.zmu,hR.1,hp⟩];rfl
  ·show(X.σ++[_])[X.sh.length]?=_
   rw[<- hr.len,yi (yb _),yC];rfl
  ·have hb':(X.sh++[SB.seq u [] n 0])[X.sh.length]?=some (.seq u' l' k' md'):=hb'
   rw[yi (yb _),yC] at hb'
   cases hb'
   exact⟨yb _,fun _=>⟨rfl,rfl⟩⟩
 ·obtain⟨Y,h5,h6,h7,h8⟩:=zes hr (tt:=some el) n hn hR
  refine⟨_,_,?_,Y,h5,h6,h7,h8⟩
  unfold Mx.app
  rw[if_pos ⟨hR.zmu,hR.1,hp⟩]
  simp only
  rw[if_neg h0,if_pos (show l.length<549755813888 from kS hl)];rfl
theorem zk7(hr:RH X){t t2:TypeId}{s x:SV}{ms mx:AV}{q:SR}(h2:RV X s ms)(h4:RV X x mx)(h:Hit (zog P t t2 s x X.sh) q):∃ y h' v sh',zgw P t t2 ms mx X.h=some (y,h')/\q=.val v sh'/\∃ Y,Stp X Y/\Y.sh=sh'/\Y.h=h'/\RV Y v y:=by
 unfold zog at h
 split at h
 ·rename_i el hu
  split at h
  ·rename_i u hu6
   split at h
   ·rename_i xs hel hsr
    obtain⟨hg,rfl⟩:=xN h
    cases(show ms=_ from h2)
    obtain⟨i,z,x0,E⟩:=zbt hel
    obtain⟨cs,hR,hms⟩:=zb8 hr h4 hsr
    obtain⟨y,h',h5,Y,h6,h7,h8,h9⟩:=zsA hr (el:=el) (mk0 u el) (zy6 u el) hR E.pos hg
    exact⟨y,h',_,_,(ze3 hu E hms).trans h5,rfl,Y,h6,h7,h8,h9⟩
   ·rename_i xs loc n hel hsr
    split at h
    ·rename_i u' l k hb
     split at h
     ·rename_i l2 hk hcu
      obtain⟨hg,rfl⟩:=xN h
      simp only[ye] at hk
      obtain⟨hk,hma⟩:=hk
      have hk:=zj hk
      subst hk
      obtain⟨e1,e2⟩:=jm hcu
      subst e1;cases e2
      obtain⟨i,z,x0,E⟩:=zbt hel
      obtain⟨cs,hR,hms⟩:=zb8 hr h4 hsr
      obtain⟨hone,o,ho,hc⟩:=h2
      have hQ:=(hc _ _ _ _ hb).2 rfl
      have hB:=hr.blk _ _ _ hb ho
      rw[ze3 hu E hms]
      have hlt:=kS hg
      have hlen:(l++xs).length=l.length+xs.length:=yu
      have hloc:=(yc.1 hb).1
      have hsetσ:∀ o',(X.σ.set loc o')[loc]?=some o':=fun o'=>yr (by rw[hr.len];exact hloc)
      have hsets:∀ b',(X.sh.set loc b')[loc]?=some b':=fun b'=>yr hloc
      cases o with
      |none=>
       obtain⟨rfl,hl0⟩:=hQ
       have hl0':l=[]:=yy.1 hl0
       subst hl0'
       by_cases h0:xs.length=0
       ·have hx0:xs=[]:=yy.1 h0
        subst hx0
        refine⟨.qC,X.h,_,_,by unfold Mx.app;rw[if_pos ⟨hR.zmu,hR.1,E.pos⟩];rfl,rfl,⟨X.h,X.Φ,X.σ.set loc none,X.sh.set loc (.seq u' ([]++[]) (k+1) 0)⟩,?_,rfl,rfl,rfl,none,hsetσ _,fun u2 l2 k2 md2 hb2=>?_⟩
        ·refine Stp.turn hr hb ho (by simp) (fun _ _ _=>rfl) (fun _ _ e=>by cases e) (yb _) (fun m=>⟨.inl,fun h=>h.elim id fun h=>by cases h.1⟩) rfl rfl (fun _ _ e=>by cases e) (fun _ _ e=>by cases e)
          (fun u3 l3 k3 md3 e=>by cases e;exact⟨[],k,0,rfl,vH _,fun e=>absurd e (by omega)⟩) (fun h=>h) (fun h=>h.elim (fun h=>by cases h) fun h=>by cases h) fun _=>rfl
        ·rw[hsets] at hb2;cases hb2;exact⟨yb _,fun _=>⟨rfl,rfl⟩⟩
       ·refine⟨.sl X.h.length 0 xs.length u'.sz 0 false,zd5 X.h cs el,_,_,?_,rfl,⟨zd5 X.h cs el,X.Φ,X.σ.set loc (some (X.h.length,0)),X.sh.set loc (.seq u' ([]++xs) (k+1) 0)⟩,?_,rfl,rfl,rfl,some (X.h.length,0),hsetσ _,fun u2 l2 k2 md2 hb2=>?_⟩
        ·unfold Mx.app
         rw[if_pos ⟨hR.zmu,hR.1,E.pos⟩]
         simp only
         rw[if_neg h0,if_pos (show xs.length<549755813888 by simpa [zG] using hlt)]
        ·refine Stp.turn hr hb ho (by simp) (fun m hm _=>Arr.j7 hm) (fun _ _ e=>by cases e) (by show _<=(X.h++[Blk.row cs 0 0 0 false (some el)]).length;rw[Arr.ql];omega) (fun m=>⟨.inl,fun h=>h.elim id fun h=>by cases h.1⟩) rfl rfl (fun _ _ e=>by cases e;exact⟨by show _<(X.h++[Blk.row cs 0 0 0 false (some el)]).length;rw[Arr.ql];simp,.inr ⟨rfl,yb _⟩⟩) (fun _ _ e=>by cases e)
          (fun u3 l3 k3 md3 e=>by cases e;exact⟨[],k,0,rfl,vH _,fun e=>absurd e (by omega)⟩) (fun h=>h) (fun h=>h.elim (fun h=>by cases h) fun h=>by cases h) fun hle=>⟨cs,0,some el,?_,yb _,hR.le hle.h hle.Φ,fun e=>by cases e⟩
         show(X.h++[_])[X.h.length]?=_
         rw[zw8 hma,Arr.z7 (yb _),yC];rfl
        ·rw[hsets] at hb2;cases hb2;exact⟨yb _,fun _=>rfl⟩
      |some p=>
       obtain⟨mm,ver⟩:=p
       obtain⟨cells,minv,tt,q1,q2,q3,q4⟩:=hB
       cases(show ms=_ from hQ)
       have hmm:=hr.lt _ _ _ ho
       obtain⟨tt',htt⟩:=zy7 hma tt
       obtain⟨tt0,htt0⟩:=zrV (ye _ _ ▸ hma:_/\_).2 tt
       by_cases h0:xs.length=0
       ·have hx0:xs=[]:=yy.1 h0
        subst hx0
        refine⟨.sl mm 0 l.length u'.sz ver false,X.h,_,_,?_,rfl,⟨X.h,X.Φ,X.σ.set loc (some (mm,ver)),X.sh.set loc (.seq u' (l++[]) (k+1) 0)⟩,?_,rfl,rfl,rfl,some (mm,ver),hsetσ _,fun u2 l2 k2 md2 hb2=>?_⟩
        ·unfold Mx.app
         rw[if_pos ⟨hR.zmu,hR.1,E.pos⟩]
         simp only
         rw[if_pos ⟨trivial,hlt⟩];rfl
        ·refine Stp.turn hr hb ho (by simp) (fun _ _ _=>rfl) (fun _ _ e=>.inl rfl) (yb _) (fun m=>⟨.inl,fun h=>h.elim id fun h=>by cases h.1⟩) rfl rfl (fun _ _ e=>by cases e;exact⟨hmm,.inl ⟨_,rfl⟩⟩) (fun m v e=>⟨v,e⟩)
          (fun u3 l3 k3 md3 e=>by cases e;exact⟨l,k,0,rfl,vH _,fun e=>absurd e (by omega)⟩) (fun h=>h) (fun h=>h.elim (fun h=>by cases h) fun h=>by cases h) fun hle=>⟨cells,minv,_,q1.trans (congrArg (fun t=>some (Blk.row cells ver minv 0 false t)) htt0),q2,by rw[vp];exact q3.le hle.h hle.Φ,fun e=>by cases e⟩
        ·rw[hsets] at hb2;cases hb2;exact⟨yb _,fun _=>by rw[vp]⟩
       ·refine⟨.sl mm 0 (l.length+xs.length) u'.sz (ver+1) false,X.h.set mm (.row (cells++cs) (ver+1) minv 0 false (if(mkS k).or tt=some el then(mkS k).or tt else none)),_,_,?_,rfl,
         ⟨X.h.set mm (.row (cells++cs) (ver+1) minv 0 false (if(mkS k).or tt=some el then(mkS k).or tt else none)),X.Φ,X.σ.set loc (some (mm,ver+1)),X.sh.set loc (.seq u' (l++xs) (k+1) 0)⟩,?_,rfl,rfl,rfl,some (mm,ver+1),hsetσ _,fun u2 l2 k2 md2 hb2=>?_⟩
        ·unfold Mx.app
         rw[if_pos ⟨hR.zmu,hR.1,E.pos⟩]
         simp only
         rw[if_pos ⟨trivial,hlt⟩,if_neg h0,if_neg (by simp),q1]
         simp only
         rw[if_pos trivial,if_pos (by rw[q3.1,yG])]
        ·refine Stp.turn hr hb ho (by simp) (fun m' hm' hne=>Arr.zY fun e=>hne ver (e ▸ rfl)) (fun _ _ _=>.inr rfl) (by show _<=(X.h.set _ _).length;rw[Arr.length_set];exact yb _) (fun m=>⟨.inl,fun h=>h.elim id fun h=>by cases h.1⟩) rfl rfl
          (fun _ _ e=>by cases e;exact⟨by show _<(X.h.set _ _).length;rw[Arr.length_set];exact hmm,.inl ⟨_,rfl⟩⟩) (fun m v e=>by cases e;exact⟨_,rfl⟩)
          (fun u3 l3 k3 md3 e=>by cases e;exact⟨l,k,0,rfl,vH _,fun e=>absurd e (by omega)⟩) (fun h=>h) (fun h=>h.elim (fun h=>by cases h) fun h=>by cases h)
          fun hle=>⟨_,minv,_,(Arr.qu hmm).trans (congrArg (fun t=>some (Blk.row (cells++cs) (ver+1) minv 0 false t)) htt),Nat.le_succ_of_le q2,(q3.le hle.h hle.Φ).append (hR.le hle.h hle.Φ),fun e=>by cases e⟩
        ·rw[hsets] at hb2;cases hb2;exact⟨yb _,fun _=>by rw[hlen]⟩
     ·cases h
    ·cases h
   ·rename_i xs u' hel hsr
    split at h
    ·rename_i hdu
     have hdu:=of_decide_eq_true hdu
     subst hdu
     obtain⟨i,z,x0,E⟩:=zbt hel
     obtain⟨cs,hR,hms⟩:=zb8 hr h4 hsr
     rw[ze3 hu E hms]
     rcases h with⟨h0,rfl⟩|⟨h0,⟨hg,rfl⟩|⟨_,h⟩⟩
     ·have h0:=zj h0
      refine⟨ms,X.h,_,_,?_,rfl,X,.refl hr,rfl,rfl,?_⟩
      ·unfold Mx.app
       rw[if_pos ⟨hR.zmu,hR.1,E.pos⟩,h0]
       rcases h2.1 with⟨_,rfl⟩|⟨m',off,ver,c',cs',rfl,hc',hΦ,hrd,hRC⟩
       ·rfl
       ·simp only;rw[if_pos ⟨trivial,by simp⟩];rfl
      ·rcases h2.1 with h2|⟨m',off,ver,c',cs',rfl,hc',hΦ,hrd,hRC⟩
       ·exact .inl h2
       ·exact .inr ⟨m',off,ver,c',cs',rfl,.inr rfl,hΦ,hrd,hRC⟩
     ·have h0:¬ xs.length=0:=fun e=>by rw[e] at h0;cases h0
      obtain⟨y,h',h5,Y,h6,h7,h8,h9⟩:=zsA hr (el:=el) 0 rfl hR E.pos hg
      obtain⟨h2,hcl⟩:=h2
      rcases h2 with⟨_,rfl⟩|⟨m',off,ver,c',cs',rfl,hc',hΦ,hrd,hRC⟩
      ·exact⟨y,h',_,_,h5,rfl,Y,h6,h7,h8,h9⟩
      ·have hcl:c'=true:=hcl
       subst hcl
       obtain⟨Y,h5,h6,h7,h8⟩:=zes hr (tt:=some el) (hc:=hR)
       refine⟨_,_,_,_,?_,rfl,Y,h5,h6,h7,h8⟩
       have hcs':cs'=[]:=yy.1 (by have:=hRC.1;simpa using this)
       subst hcs'
       have hlt:=kS hg
       unfold Mx.app
       rw[if_pos ⟨hR.zmu,hR.1,E.pos⟩]
       simp only[vI,yG] at hrd |-
       rw[if_pos ⟨trivial,show xs.length<549755813888 from hlt⟩,if_neg h0,if_pos trivial,hrd]
       rfl
     ·cases h
    ·cases h
   ·cases h
  ·cases h
 ·cases h
end
end Go.Sx
namespace Go.Sx
open Go Go.Gx Go.Mx
variable [kF]
section
variable {P:Program} {gl:GL} {X:Gst} {e:Operand->Option SV} {m:Operand->Option AV}
def zaF{α:Type}(l:List α)(off:Nat)(xs:List α):List α:=l.take off++xs++l.drop (off+xs.length)
theorem RCs.take{h:zg}{Φ:Nat->Prop}{u:U}{l:List (El u)}{cs:List AV}(q:RCs h Φ u l cs)(n:Nat)(hn:n<=l.length):RCs h Φ u (l.take n) (cs.take (n*u.sz)):=by
 have:=q.slice (a:=0) (n:=n) (by omega)
 simpa [Sx.slice] using this
theorem RCs.drop{h:zg}{Φ:Nat->Prop}{u:U}{l:List (El u)}{cs:List AV}(q:RCs h Φ u l cs)(n:Nat)(hn:n<=l.length):RCs h Φ u (l.drop n) (cs.drop (n*u.sz)):=by
 have:=q.slice (a:=n) (n:=l.length-n) (by omega)
 have h1:=q.1
 have e1:Sx.slice l n (n+(l.length-n))=l.drop n:=by unfold Sx.slice;rw[yA (by rw[yD];omega)]
 have e2:(cs.drop (n*u.sz)).take ((l.length-n)*u.sz)=cs.drop (n*u.sz):=yA (by rw[yD,h1,ui];exact yb _)
 rwa [e1,e2] at this
def zxy(P:Program)(t t2:TypeId)(d x:SV)(h:SH):Option (Bool×SV×SH):=
 match P.underlying t with
 |some (.slice e)=>match uOf P 6 e with
  |some u=>match zwJ P e u,zu2 P t2 u x h,d with
   |true,some xs,.gs loc n=>match h[loc]? with
    |some (.seq u' l k 0)=>match yo k n,zbr u' u l with
     |true,some l=>some (true,.a (.int .i64 (min xs.length l.length:Nat)),h.set loc (.seq u (zaF l 0 (xs.take l.length)) n 0))
     |_,_=>none
    |_=>none
   |true,some xs,.sl loc n off len _=>match h[loc]? with
    |some (.seq u' l k 0)=>match yo k n,zbr u' u l with
     |true,some l=>some (true,.a (.int .i64 (min xs.length len:Nat)),h.set loc (.seq u (zaF l off (xs.take len)) n 0))
     |_,_=>none
    |_=>none
   |_,_,_=>none
  |none=>none
 |_=>none
theorem znq(hr:RH X){loc:Nat}{u:U}{l xs:List (El u)}{k off len mm ver:Nat}{c:Bool}{cs:List AV}(hp:0<u.sz)(hb:X.sh[loc]?=some (.seq u l k 0))(ho:X.σ[loc]?=some (some (mm,ver)))(hl:off+len<=l.length)(hR:RCs X.h X.Φ u xs cs):
  ∃ h',(if min xs.length len=0 then some (AV.int .i64 0,X.h) else match wr X.h mm (off*u.sz) ver (off*u.sz+len*u.sz) (cs.take (min xs.length len*u.sz)) with|some h'=>some (AV.int .i64 (min xs.length len:Nat),h')|none=>none)=some (AV.int .i64 (min xs.length len:Nat),h') /\
   ∃ Y,Stp X Y/\Y.sh=X.sh.set loc (.seq u (zaF l off (xs.take len)) k 0)/\Y.h=h':=by
 obtain⟨cells,minv,tt,q1,q2,q3,q4⟩:=hr.blk _ _ _ hb ho
 have hmm:=hr.lt _ _ _ ho
 have hxl:(xs.take len).length=min xs.length len:=by rw[yx];exact Nat.min_comm _ _
 have hupd:(zaF l off (xs.take len)).length=l.length:=by
  unfold zaF;rw[yu,yu,yx,yD,hxl];omega
 by_cases h0:min xs.length len=0
 ·refine⟨X.h,by rw[if_pos h0,h0];rfl,⟨X.h,X.Φ,X.σ,X.sh.set loc (.seq u (zaF l off (xs.take len)) k 0)⟩,?_,rfl,rfl⟩
  have hx0:xs.take len=[]:=yy.1 (hxl.trans h0)
  have he:zaF l off (xs.take len)=l:=by unfold zaF;rw[hx0];simp
  rw[he]
  refine Stp.turn hr hb ho (by simp) (fun _ _ _=>rfl) (fun _ _ e=>.inl rfl) (yb _) (fun m=>⟨.inl,fun h=>h.elim id fun h=>by cases h.1⟩) (wK ho).symm rfl (fun _ _ e=>by cases e;exact⟨hmm,.inl ⟨_,rfl⟩⟩) (fun m v e=>⟨v,e⟩)
   (fun u3 l3 k3 md3 e=>by cases e;exact⟨l,k,0,rfl,yb _,fun _=>⟨rfl,rfl⟩⟩) (fun h=>h) (fun h=>h.elim (fun h=>by cases h) fun h=>by cases h) fun hle=>⟨cells,minv,tt,q1,q2,q3.le hle.h hle.Φ,fun e=>by cases e⟩
 ·have hcl:(cs.take (min xs.length len*u.sz)).length=min xs.length len*u.sz:=by
   rw[yx,hR.1];exact yw (yj _ (ue _ _))
  refine⟨X.h.set mm (.row (cells.take (off*u.sz)++cs.take (min xs.length len*u.sz)++cells.drop (off*u.sz+(cs.take (min xs.length len*u.sz)).length)) ver ver 0 false ((mkS k).or tt)),?_,⟨X.h.set mm (.row (cells.take (off*u.sz)++cs.take (min xs.length len*u.sz)++cells.drop (off*u.sz+(cs.take (min xs.length len*u.sz)).length)) ver ver 0 false ((mkS k).or tt)),X.Φ,X.σ,X.sh.set loc (.seq u (zaF l off (xs.take len)) k 0)⟩,?_,rfl,rfl⟩
  ·have hones:(cs.take (min xs.length len*u.sz)).all AV.one=true:=by
    have:=hR.zmu
    rw[List.all_eq_true] at this |-
    exact fun x hx=>this x (List.mem_of_mem_take hx)
   rw[if_neg h0]
   unfold wr;rw[q1];simp only
   rw[if_pos ⟨trivial,vy _,by rw[hcl];exact Nat.add_le_add_left (yj _ (Nat.min_le_right _ _)) _,hones⟩]
  ·refine Stp.turn hr hb ho (by simp) (fun m' hm' hne=>Arr.zY fun e=>hne ver (e ▸ rfl)) (fun _ _ _=>.inr rfl) (by show _<=(X.h.set _ _).length;rw[Arr.length_set];exact yb _)
    (fun m=>⟨.inl,fun h=>h.elim id fun h=>by cases h.1⟩) (wK ho).symm rfl (fun m' v' e=>by cases e;exact⟨by show _<(X.h.set _ _).length;rw[Arr.length_set];exact hmm,.inl ⟨_,rfl⟩⟩) (fun m v e=>⟨v,e⟩)
    (fun u3 l3 k3 md3 e=>by cases e;exact⟨l,k,0,rfl,yb _,fun _=>⟨hupd.symm,rfl⟩⟩) (fun h=>h) (fun h=>h.elim (fun h=>by cases h) fun h=>by cases h) fun hle=>?_
   refine⟨_,ver,tt,Arr.qu hmm,yb _,?_,fun e=>by cases e⟩
   have a1:=(q3.take off (by omega)).append (hR.take (min xs.length len) (ue _ _))
   have a2:=a1.append (q3.drop (off+min xs.length len) (by omega))
   have e1:xs.take (min xs.length len)=xs.take len:=by rw[List.take_eq_take_iff];omega
   have e2:zaF l off (xs.take len)=l.take off++xs.take (min xs.length len)++l.drop (off+min xs.length len):=by unfold zaF;rw[hxl,e1]
   have a3:=a2.le hle.h hle.Φ
   have e3:off*u.sz+(cs.take (min xs.length len*u.sz)).length=(off+min xs.length len)*u.sz:=by rw[hcl,<- yT]
   rw[<- e2,<- e3] at a3
   exact a3
theorem zok(hr:RH X){t t2:TypeId}{d x v:SV}{md mx:AV}{sh':SH}(h2:RV X d md)(h4:RV X x mx)(h:zxy P t t2 d x X.sh=some (true,v,sh')):∃ y h',zme P t t2 md mx X.h=some (y,h')/\∃ Y,Stp X Y/\Y.sh=sh'/\Y.h=h'/\RV Y v y:=by
 unfold zxy at h
 split at h
 ·rename_i el hu
  split at h
  ·rename_i u hu6
   split at h
   ·rename_i xs loc n hel hsr
    split at h
    ·rename_i u' l k hb
     split at h
     ·rename_i l2 hk hcu
      cases h
      have hk:=zj hk
      subst hk
      obtain⟨e1,e2⟩:=jm hcu
      subst e1;cases e2
      obtain⟨i,z,x0,E⟩:=zbt hel
      obtain⟨cs,hR,hms⟩:=zb8 hr h4 hsr
      obtain⟨hone,o,ho,hc⟩:=h2
      have hQ:=(hc _ _ _ _ hb).2 rfl
      cases o with
      |none=>
       obtain⟨rfl,hl0⟩:=hQ
       have hl0':l=[]:=yy.1 hl0
       subst hl0'
       refine⟨.int .i64 0,X.h,by simp only[zme,hu,E.sz,hms],X,.refl hr,?_,rfl,?_⟩
       ·exact(wK (by rw[hb];simp [zaF])).symm
       ·show _=_;simp
      |some p=>
       obtain⟨mm,ver⟩:=p
       cases(show md=_ from hQ)
       obtain⟨h',h5,Y,h6,h7,h8⟩:=znq hr (xs:=xs) (off:=0) (len:=l.length) (c:=false) E.pos hb ho (by omega) hR
       refine⟨_,h',?_,Y,h6,h7,h8,rfl⟩
       simp only[zme,hu,E.sz,hms,if_true]
       rw[vj] at h5
       exact h5
     ·cases h
    ·cases h
   ·rename_i xs loc n off len c hel hsr
    split at h
    ·rename_i u' l k hb
     split at h
     ·rename_i l2 hk hcu
      cases h
      have hk:=zj hk
      subst hk
      obtain⟨e1,e2⟩:=jm hcu
      subst e1;cases e2
      obtain⟨i,z,x0,E⟩:=zbt hel
      obtain⟨cs,hR,hms⟩:=zb8 hr h4 hsr
      obtain⟨hone,o,ho,hc⟩:=h2
      obtain⟨hl,hQ⟩:=(hc _ _ _ _ hb).2 rfl
      cases o with
      |none=>
       cases(show md=_ from hQ)
       have hl0:l=[]:=hr.blk _ _ _ hb ho
       subst hl0
       simp only[vI,ug,vV] at hl
       obtain⟨rfl,rfl⟩:=hl
       refine⟨.int .i64 0,X.h,by simp only[zme,hu,E.sz,hms],X,.refl hr,?_,rfl,?_⟩
       ·exact(wK (by rw[hb];simp [zaF])).symm
       ·show _=_;simp
      |some p=>
       obtain⟨mm,ver⟩:=p
       cases(show md=_ from hQ)
       obtain⟨h',h5,Y,h6,h7,h8⟩:=znq hr (xs:=xs) (off:=off) (len:=len) (c:=c) E.pos hb ho hl hR
       refine⟨_,h',?_,Y,h6,h7,h8,rfl⟩
       simp only[zme,hu,E.sz,hms,if_true]
       exact h5
     ·cases h
    ·cases h
   ·cases h
  ·cases h
 ·cases h
def zsY(P:Program)(t:TypeId)(d:SV)(h:SH):Option SH:=
 match P.underlying t with
 |some (.slice e)=>match uOf P 6 e with
  |some u=>match zwJ P e u,d with
   |true,.gs loc n=>match h[loc]? with
    |some (.seq u' l k 0)=>match yo k n,zbr u' u l with
     |true,some l=>some (h.set loc (.seq u (zaF l 0 ((yn l.length u.zero).take l.length)) n 0))
     |_,_=>none
    |_=>none
   |true,.sl loc n off len _=>match h[loc]? with
    |some (.seq u' l k 0)=>match yo k n,zbr u' u l with
     |true,some l=>some (h.set loc (.seq u (zaF l off ((yn len u.zero).take len)) n 0))
     |_,_=>none
    |_=>none
   |_,_=>none
  |none=>none
 |_=>none
theorem zoO(hr:RH X){loc:Nat}{u:U}{l:List (El u)}{k off len mm ver:Nat}{cells:List AV}{e:TypeId}{t:TypeId}{z x0:AV}{c:Bool}(hu:P.underlying t=some (.slice e))(hz:zeroOf P e=some x0)(hx:x0.cells=u.zcv)(hp:0<u.sz)(hb:X.sh[loc]?=some (.seq u l k 0))(ho:X.σ[loc]?=some (some (mm,ver)))(hl:off+len<=l.length):
  ∃ h',mclear P t (.sl mm (off*u.sz) len u.sz ver c) X.h=some h'/\∃ Y,Stp X Y/\Y.sh=X.sh.set loc (.seq u (zaF l off ((yn len u.zero).take len)) k 0)/\Y.h=h':=by
 have hR:=RCs.zvn (h:=X.h) (Φ:=X.Φ) hp len
 obtain⟨h',h5,Y,h6,h7,h8⟩:=znq hr (xs:=yn len u.zero) (off:=off) (len:=len) (c:=c) hp hb ho hl hR
 refine⟨h',?_,Y,h6,h7,h8⟩
 simp only[mclear,hu,hz]
 simp only[vQ,Nat.min_self] at h5
 split at h5
 ·rename_i h0
  rw[if_pos h0];cases h5;rfl
 ·rename_i h0
  rw[if_neg h0,hx,if_pos zbA]
  split at h5
  ·rename_i h2 hw
   cases h5
   have hlen:(kl u.zcv (len*u.sz)).take (len*u.sz)=kl u.zcv (len*u.sz):=yA (by simp [kl])
   rw[hlen] at hw
   exact hw
  ·cases h5
theorem zmM(hr:RH X){t:TypeId}{d:SV}{md:AV}{sh':SH}(h2:RV X d md)(h:zsY P t d X.sh=some sh'):∃ h',mclear P t md X.h=some h'/\∃ Y,Stp X Y/\Y.sh=sh'/\Y.h=h':=by
 unfold zsY at h
 split at h
 ·rename_i el hu
  split at h
  ·rename_i u hu6
   split at h
   ·rename_i loc n hel
    split at h
    ·rename_i u' l k hb
     split at h
     ·rename_i l2 hk hcu
      cases h
      have hk:=zj hk
      subst hk
      obtain⟨e1,e2⟩:=jm hcu
      subst e1;cases e2
      obtain⟨i,z,x0,E⟩:=zbt hel
      obtain⟨hone,o,ho,hc⟩:=h2
      have hQ:=(hc _ _ _ _ hb).2 rfl
      cases o with
      |none=>
       obtain⟨rfl,hl0⟩:=hQ
       have hl0':l=[]:=yy.1 hl0
       subst hl0'
       refine⟨X.h,by simp only[mclear,hu],X,.refl hr,?_,rfl⟩
       exact(wK (by rw[hb];simp [zaF])).symm
      |some p=>
       obtain⟨mm,ver⟩:=p
       cases(show md=_ from hQ)
       have:=zoO hr (off:=0) (len:=l.length) (c:=false) (cells:=[]) (z:=x0) hu E.zo E.xc E.pos hb ho (by omega)
       rw[vj] at this
       exact this
     ·cases h
    ·cases h
   ·rename_i loc n off len c hel
    split at h
    ·rename_i u' l k hb
     split at h
     ·rename_i l2 hk hcu
      cases h
      have hk:=zj hk
      subst hk
      obtain⟨e1,e2⟩:=jm hcu
      subst e1;cases e2
      obtain⟨i,z,x0,E⟩:=zbt hel
      obtain⟨hone,o,ho,hc⟩:=h2
      obtain⟨hl,hQ⟩:=(hc _ _ _ _ hb).2 rfl
      cases o with
      |none=>
       cases(show md=_ from hQ)
       have hl0:l=[]:=hr.blk _ _ _ hb ho
       subst hl0
       simp only[vI,ug,vV] at hl
       obtain⟨rfl,rfl⟩:=hl
       refine⟨X.h,by simp only[mclear,hu],X,.refl hr,?_,rfl⟩
       exact(wK (by rw[hb];simp [zaF])).symm
      |some p=>
       obtain⟨mm,ver⟩:=p
       cases(show md=_ from hQ)
       exact zoO hr (c:=c) (cells:=[]) (z:=x0) hu E.zo E.xc E.pos hb ho hl
     ·cases h
    ·cases h
   ·cases h
  ·cases h
 ·cases h
def smx(x y:SV)(mx:Bool):Option SV:=match x,y with
 |.a (.int .u8 _),_=>none
 |.a (.int k a),.a (.int _ b)=>some (.a (.int k (match mx with|true=>if b > a then b else a|false=>if b<a then b else a)))
 |_,_=>none
def zk8(P:Program)(b:Builtin)(ts:List TypeId)(args:List SV)(h:SH):zlv:=
 match b,ts,args with
 |.len,t::_,[x]=>zph h ((zAo P t x h).map fun n=>.a (.int .i64 (n:Int)))
 |.append,[t,t2],[s,x]=>zog P t t2 s x h
 |.copy,[t,t2],[d,x]=>zxU (zxy P t t2 d x h)
 |.max,_,[x,y]=>zph h (smx x y true)
 |.min,_,[x,y]=>zph h (smx x y false)
 |.delete,[t,_],[mp,k]=>match zkI P t mp k h with
  |some h'=>one true (.tup []) h'
  |none=>[]
 |.clear,[t],[x]=>match zsY P t x h with
  |some h'=>one true (.tup []) h'
  |none=>[]
 |.unsafeSliceData,_,[.gs loc n]=>match h[loc]? with
  |some (.seq _ l k _)=>match yo k n with
   |true=>one (ym 0 l.length) (.zyO loc n) h
   |false=>[]
  |_=>[]
 |.unsafeString,pt::_,[.zyO loc n,.a (.int .i64 k)]=>match P.underlying pt,h[loc]? with
  |some (.pointer u),some (.seq .u8 l n' 0)=>match yo n' n&&(mkB (some u) (mkS n)&&yo (P.cellsOf u) 1) with
   |true=>one (decide (k=(l.length:Int))&&(ym 0 l.length&&ym l.length zG)) (.a (.str l)) (h.set loc .gone)
   |false=>[]
  |_,_=>[]
 |_,_,_=>[]
theorem zki(hr:RH X){b:Builtin}{ts:List TypeId}{args:List SV}{xs:List AV}{q:SR}(ha:RVs X args xs)(h:Hit (zk8 P b ts args X.sh) q):∃ rs,k9 P b ts xs X.h=some rs/\SRR X q rs:=by
 unfold zk8 at h
 split at h
 ·rename_i t ts' x
  obtain⟨v,hv,rfl⟩:=zfI h
  obtain⟨a,_,rfl,h1,rfl⟩:=ha
  cases hs:zAo P t x X.sh with
  |none=>rw[hs] at hv;cases hv
  |some n=>
   rw[hs] at hv;cases hv
   exact⟨_,by simp only[k9,zqr hr h1 hs,rv],.same hr rfl⟩
 ·obtain⟨a,_,rfl,h1,b,_,rfl,h2,rfl⟩:=ha
  obtain⟨y,h',v,sh',h3,rfl,Y,h4,h5,h6,h7⟩:=zk7 hr h1 h2 h
  exact⟨.val y h',by simp only[k9,h3,rvh],Y,h4,h5,h6,h7⟩
 ·obtain⟨a,_,rfl,h1,b,_,rfl,h2,rfl⟩:=ha
  obtain⟨v,sh',hc,rfl⟩:=zrr h
  obtain⟨y,h',h3,Y,h4,h5,h6,h7⟩:=zok hr h1 h2 hc
  exact⟨.val y h',by simp only[k9,h3,rvh],Y,h4,h5,h6,h7⟩
 ·obtain⟨v,hv,rfl⟩:=zfI h
  obtain⟨a,_,rfl,h1,b,_,rfl,h2,rfl⟩:=ha
  unfold smx at hv
  split at hv
  ·cases hv
  ·cases hv;cases(show a=_ from h1);cases(show b=_ from h2)
   exact⟨_,rfl,.same hr rfl⟩
  ·cases hv
 ·obtain⟨v,hv,rfl⟩:=zfI h
  obtain⟨a,_,rfl,h1,b,_,rfl,h2,rfl⟩:=ha
  unfold smx at hv
  split at hv
  ·cases hv
  ·cases hv;cases(show a=_ from h1);cases(show b=_ from h2)
   exact⟨_,rfl,.same hr rfl⟩
  ·cases hv
 ·split at h
  ·rename_i h' hc
   obtain⟨_,rfl⟩:=xN h
   obtain⟨a,_,rfl,h1,b,_,rfl,h2,rfl⟩:=ha
   obtain⟨h3,h4,Y,h5,h6,h7⟩:=zjb hr h1 h2 hc
   exact⟨.val (.tup []) h3,by simp only[k9,h4],Y,h5,h6,h7,[],rfl,rfl⟩
  ·cases h
 ·split at h
  ·rename_i h' hc
   obtain⟨_,rfl⟩:=xN h
   obtain⟨a,_,rfl,h1,rfl⟩:=ha
   obtain⟨h2,h3,Y,h4,h5,h6⟩:=zmM hr h1 hc
   exact⟨.val (.tup []) h2,by simp only[k9,h3],Y,h4,h5,h6,[],rfl,rfl⟩
  ·cases h
 ·split at h
  ·rename_i u l k md hb
   split at h
   ·rename_i hk
    cases zj hk
    obtain⟨hg,rfl⟩:=xN h
    have hg:=kS hg
    obtain⟨x,_,rfl,h1,rfl⟩:=ha
    obtain⟨hone,o,ho,hc⟩:=h1
    have hQ:=(hc _ _ _ _ hb).2 rfl
    cases o with
    |none=>obtain⟨_,h0⟩:=hQ;omega
    |some p=>
     obtain⟨m,ver⟩:=p
     cases(show x=_ from hQ)
     refine⟨.val (.ptr m 0 ver (0+l.length*u.sz)) X.h,by simp only[k9];rw[if_pos hg],.same hr ⟨rfl,some (m,ver),ho,fun u2 l2 k2 md2 hb2=>?_⟩⟩
     rw[hb] at hb2;cases hb2
     exact⟨yb _,fun _=>⟨m,ver,rfl,by rw[yG]⟩⟩
   ·cases h
  ·cases h
 ·split at h
  ·rename_i u l n' hu hb
   split at h
   ·rename_i hc
    simp only[ye] at hc
    obtain⟨hk,hm,hcl⟩:=hc
    cases zj hk
    obtain⟨hg,rfl⟩:=xN h
    simp only[ye,decide_eq_true_eq] at hg
    obtain⟨rfl,hl0,hl9⟩:=hg
    have hl0:=kS hl0
    have hl9:=kS hl9
    obtain⟨x,_,rfl,h1,y,_,rfl,h2,rfl⟩:=ha
    cases(show y=_ from h2)
    obtain⟨hone,o,ho,hc⟩:=h1
    obtain⟨m,ver,rfl,rfl⟩:=(hc _ _ _ _ hb).2 rfl
    obtain⟨cells,minv,tt,q1,q2,q3,q4⟩:=hr.blk _ _ _ hb ho
    have hmk:∀ q:Option TypeId,mkB (some u) q=true->∀ t,q.or t=some u:=fun q hm t=>by
     cases q with
     |none=>cases hm
     |some b=>rw[<- zj (show yo u b=true from hm)];rfl
    rw[hmk _ hm] at q1
    have hmm:=hr.lt _ _ _ ho
    have hcs:cells.length=l.length:=by rw[q3.1];simp [U.sz]
    refine⟨.val (.str l) (X.h.set m (.row cells ver minv (max 0 l.length) false (some u))),?_,⟨X.h.set m (.row cells ver minv (max 0 l.length) false (some u)),X.Φ,X.σ,X.sh.set _ .gone⟩,?_,rfl,rfl,rfl⟩
    ·simp only[k9,hu,q1]
     rw[if_neg (by omega),if_pos ⟨trivial,trivial,zj hcl,by omega,by simp [zG] at hl9;omega,trivial⟩]
     have hrd:rd X.h m 0 ver (l.length*U.u8.sz) (l.length:Int).toNat=some cells:=by
      rw[ziD q1 q2 _ _ _ (by simp [U.sz]),yO,yA (by rw[hcs];simp)]
     rw[hrd,q3.bytes]
     simp only[zfh]
     rfl
    ·exact Stp.turn hr hb ho (by simp) (fun m' hm' hne=>Arr.zY fun e=>hne ver (e ▸ rfl)) (fun _ _ _=>.inr rfl) (by show _<=(X.h.set _ _).length;rw[Arr.length_set];exact yb _) (fun m=>⟨.inl,fun h=>h.elim id fun h=>by cases h.1⟩) (wK ho).symm rfl
      (fun _ _ e=>by cases e;exact⟨by show _<(X.h.set _ _).length;rw[Arr.length_set];exact hmm,.inl ⟨_,rfl⟩⟩) (fun m v e=>⟨v,e⟩)
      (fun u3 l3 k3 md3 e=>by cases e) (fun h=>absurd rfl h) (fun h=>h.elim (fun h=>by cases h) fun h=>by cases h) fun hle=>trivial
   ·cases h
  ·cases h
 ·cases h
def znL(n:Int)(loc off lim z:Nat)(h:SH):Nat->Nat->zlv
 |0,_=>[]
 |k+1,j=>(decide (n=(j:Int)),.val (.ptr loc (off+j*z) lim) h)::znL n loc off lim z h k (j+1)
theorem zin{n:Int}{loc off lim z:Nat}{h:SH}{q:SR}:∀ (k j:Nat),Hit (znL n loc off lim z h k j) q->∃ i:Nat,i<j+k/\n=(i:Int)/\q=.val (.ptr loc (off+i*z) lim) h
 |0,_,hh=>by cases hh
 |k+1,j,hh=>by
  rcases hh with⟨h1,h2⟩|⟨_,h2⟩
  ·exact⟨j,by omega,of_decide_eq_true h1,h2.symm⟩
  ·obtain⟨i,h3,h4⟩:=zin k (j+1) h2
   exact⟨i,by omega,h4⟩
def zle(P:Program)(t:TypeId)(v:SV):Option (Nat×Nat×Nat×Nat×Nat):=match v,P.underlying t with
 |.ptr loc off lim,some (.array len e)=>match zcC P e,yQ len 8 with
  |some z,true=>some (loc,off,lim,z,len)
  |_,_=>none
 |_,_=>none
theorem zlf{P:Program}{t:TypeId}{v:SV}{loc off lim z len:Nat}(hs:zle P t v=some (loc,off,lim,z,len)):v=.ptr loc off lim/\∃ e,P.underlying t=some (.array len e)/\zcC P e=some z:=by
 unfold zle at hs
 split at hs
 ·rename_i e hu
  split at hs
  ·rename_i z' hz hb;cases hs;exact⟨rfl,e,hu,hz⟩
  ·cases hs
 ·cases hs
def sop(P:Program)(gl:GL)(e:Operand->Option SV)(h:SH)(op:Op):zlv:=
 match op with
 |.move x=>zph h (e x)
 |.assign x=>zph h (e x)
 |.pick c a b=>match e c,e a,e b with
  |some (.a (.bool c)),some x,some y=>zxB c x y h
  |_,_,_=>[]
 |.alloc t=>zxU (zsT P t h)
 |.box t x=>match e x with
  |some v=>match zvZ none v h with
   |some (w,h')=>one true w h'
   |none=>[]
  |none=>[]
 |.build t parts=>match ziQ e parts.toList with
  |some ps=>zph h (zsX P t ps)
  |none=>[]
 |.buildSlice t len parts=>match ziQ e parts.toList with
  |some ps=>zxU (zfd P t len ps h)
  |none=>[]
 |.load t x=>match e x with
  |some p=>zph h (zor P gl h t p)
  |none=>[]
 |.store t a x=>match e a,e x,zcC P t with
  |some p,some v,some n=>match yo v.cells.length n,v.whole with
   |true,true=>zz4 (zk3 h v.cells p)
   |_,_=>[]
  |_,_,_=>[]
 |.nilCheck x=>match e x with
  |some v=>match zxg v with
   |true=>one true v h
   |false=>[]
  |none=>[]
 |.binOp op t x y _=>match e x,e y with
  |some a,some b=>zxT h (zAm P op t x y a b)
  |_,_=>[]
 |.unOp u _ x=>match e x with
  |some v=>zph h (sun u v)
  |none=>[]
 |.convert s d x=>match e x with
  |some v=>zxU (zuL P s d v h)
  |none=>[]
 |.makeInterface t x=>match e x,isIface P t with
  |some v,false=>one true (.ifc t v) h
  |_,_=>[]
 |.makeFunc (.func f) first cap=>match ztJ e first.toList,ztJ e cap.toList with
  |some a,some b=>one true (.fn f a b) h
  |_,_=>[]
 |.makeMap _ none=>one true (.map h.length) (h++[.map [] [] 0])
 |.makeSlice t l c=>match e l,e c with
  |some a,some b=>zxU (zgM P t a b h)
  |_,_=>[]
 |.slice t x lo hi mx=>match e x,zg6 e lo,zg6 e hi,zg6 e mx with
  |some v,some a,some b,some c=>zxT h (zpz P t v a b c h)
  |_,_,_,_=>[]
 |.fieldAddr s x f=>match e x with
  |some v=>zph h (zet P s v f h)
  |none=>[]
 |.field t x f=>match e x with
  |some v=>zph h (zs3 P t v f)
  |none=>[]
 |.indexAddr t x i=>match e x,e i with
  |some a,some b=>match zv6 b with
   |some n=>match zlb P gl t a n with
    |some r=>zxT h (some r)
    |none=>match zle P t a with
     |some (loc,off,lim,z,len)=>znL n loc off lim z h len 0
     |none=>zxT h (zc1 P t a n h)
   |none=>[]
  |_,_=>[]
 |.index t x i=>match e x,e i with
  |some a,some b=>match zv6 b with
   |some n=>zxT h (zta P t a n)
   |none=>[]
  |_,_=>[]
 |.lookup t mp k ok=>match e mp,e k with
  |some a,some b=>zot P t a b ok h
  |_,_=>[]
 |.mapUpdate t mp k v=>match e mp,e k,e v with
  |some a,some b,some c=>zAp P t a b c h
  |_,_,_=>[]
 |.insert t mp k v=>match e mp,e k,e v with
  |some a,some b,some c=>zAp P t a b c h
  |_,_,_=>[]
 |.typeAssert x _ t true=>match e x with
  |some v=>zph h (zoh P t v)
  |none=>[]
 |.extract x i=>match e x with
  |some (.tup l)=>zph h l[i]?
  |_=>[]
 |.call c=>match c.callee,ztJ e c.args.toList with
  |.value f,some args=>match e f with
   |some (.fn f first cap)=>[(true,.call (.inl f) (first++args++cap))]
   |some (.yld loc)=>[(true,.call (.inr loc) args)]
   |_=>[]
  |.builtin b,some args=>zk8 P b c.argTypes.toList args h
  |_,_=>[]
 |.defer c=>match c.callee,ztJ e c.args.toList with
  |.value f,some args=>match e f with
   |some (.fn f first cap)=>[(true,.dfr f (first++args) cap)]
   |_=>[]
  |_,_=>[]
 |_=>[]
theorem zgd(hr:RH X)(hg:RGl P gl X)(he:EvR X e m){op:Op}{q:SR}(h:Hit (sop P gl e X.sh op) q):∃ rs,mop P m X.h op=some rs/\SRR X q rs:=by
 unfold sop at h
 split at h
 ·obtain⟨v,h1,rfl⟩:=zfI h;exact zp8 hr he h1
 ·obtain⟨v,h1,rfl⟩:=zfI h;exact zlz hr he h1
 ·split at h
  ·rename_i h1 h2 h3;exact zqf hr he h1 h2 h3 h
  ·cases h
 ·obtain⟨v,sh',h1,rfl⟩:=zrr h;exact znc hr h1
 ·split at h
  ·rename_i v h1
   split at h
   ·rename_i w h' h2;obtain⟨_,rfl⟩:=xN h;exact zqW hr he h1 h2
   ·cases h
  ·cases h
 ·split at h
  ·rename_i ps h1;obtain⟨v,h2,rfl⟩:=zfI h;exact zni hr he h1 h2
  ·cases h
 ·split at h
  ·rename_i ps h1;obtain⟨v,sh',h2,rfl⟩:=zrr h;exact zhr hr he h1 h2
  ·cases h
 ·split at h
  ·rename_i p h1;obtain⟨v,h2,rfl⟩:=zfI h;exact zp4 hr hg he h1 h2
  ·cases h
 ·split at h
  ·rename_i p v n h1 h2 h3
   split at h
   ·rename_i h4 h5
    obtain⟨sh',h6,rfl⟩:=zA6 h
    obtain⟨xp,q1,q2⟩:=he _ _ h1
    obtain⟨xv,q3,q4⟩:=he _ _ h2
    have hc:=q4.ziW h5
    obtain⟨loc,off,ver,lim,h',rfl,q5,Y,q6,q7,q8⟩:=zjj hr q2 hc h6
    refine⟨.unit h',?_,Y,q6,q7,q8⟩
    simp only[mop,q1,q3,h3]
    rw[if_pos (by rw[hc.length];exact zj h4),q5];rfl
   ·cases h
  ·cases h
 ·split at h
  ·rename_i v h1
   split at h
   ·rename_i h2;obtain⟨_,rfl⟩:=xN h;exact zjh hr he h1 h2
   ·cases h
  ·cases h
 ·split at h
  ·rename_i a b h1 h2;obtain⟨v,h3,rfl⟩:=zpX h;exact zqU hr he h1 h2 h3
  ·cases h
 ·split at h
  ·rename_i v h1;obtain⟨v,h2,rfl⟩:=zfI h;exact zvj hr he h1 h2
  ·cases h
 ·split at h
  ·rename_i v h1;obtain⟨v,sh',h2,rfl⟩:=zrr h;exact zkp hr he h1 h2
  ·cases h
 ·split at h
  ·rename_i v h1 h2;obtain⟨_,rfl⟩:=xN h;exact ze2 hr he h1 h2
  ·cases h
 ·split at h
  ·rename_i a b h1 h2;obtain⟨_,rfl⟩:=xN h;exact zjd hr he h1 h2
  ·cases h
 ·obtain⟨_,rfl⟩:=xN h;exact zkS hr
 ·split at h
  ·rename_i a b h1 h2;obtain⟨v,sh',h3,rfl⟩:=zrr h;exact zix hr he h1 h2 h3
  ·cases h
 ·split at h
  ·rename_i v a b c h1 h2 h3 h4;obtain⟨v,h5,rfl⟩:=zpX h;exact zoq hr he h1 h2 h3 h4 h5
  ·cases h
 ·split at h
  ·rename_i v h1;obtain⟨v,h2,rfl⟩:=zfI h;exact zif hr he h1 h2
  ·cases h
 ·split at h
  ·rename_i v h1;obtain⟨v,h2,rfl⟩:=zfI h;exact zny hr he h1 h2
  ·cases h
 ·split at h
  ·rename_i a b h1 h2
   split at h
   ·rename_i n h3
    split at h
    ·rename_i r hr2;obtain⟨v,h4,rfl⟩:=zpX h;exact zhu hr hg he h1 h2 h3 (hr2.trans h4)
    ·split at h
     ·rename_i loc off lim z len hsm
      obtain⟨i,hi,e1,rfl⟩:=zin _ _ h
      obtain⟨rfl,el,hu,hz⟩:=zlf hsm
      subst e1
      refine zdX hr he h1 h2 h3 ?_
      have hin:inb (i:Int) len=true:=by simp [inb];omega
      simp only[zc1,hu,hz,hin,Int.toNat_natCast]
     ·obtain⟨v,h4,rfl⟩:=zpX h;exact zdX hr he h1 h2 h3 h4
   ·cases h
  ·cases h
 ·split at h
  ·rename_i a b h1 h2
   split at h
   ·rename_i n h3;obtain⟨v,h4,rfl⟩:=zpX h;exact znM hr he h1 h2 h3 h4
   ·cases h
  ·cases h
 ·split at h
  ·rename_i a b h1 h2;exact zl8 hr he h1 h2 h
  ·cases h
 ·split at h
  ·rename_i a b c h1 h2 h3
   obtain⟨xa,q1,q2⟩:=he _ _ h1
   obtain⟨xb,q3,q4⟩:=he _ _ h2
   obtain⟨xc,q5,q6⟩:=he _ _ h3
   obtain⟨h',sh',q7,rfl,Y,q8,q9,q10⟩:=zj3 hr q2 q4 q6 h
   exact⟨.unit h',by simp only[mop,q1,q3,q5,q7,ru],Y,q8,q9,q10⟩
  ·cases h
 ·split at h
  ·rename_i a b c h1 h2 h3
   obtain⟨xa,q1,q2⟩:=he _ _ h1
   obtain⟨xb,q3,q4⟩:=he _ _ h2
   obtain⟨xc,q5,q6⟩:=he _ _ h3
   obtain⟨h',sh',q7,rfl,Y,q8,q9,q10⟩:=zj3 hr q2 q4 q6 h
   exact⟨.unit h',by simp only[mop,q1,q3,q5,q7,ru],Y,q8,q9,q10⟩
  ·cases h
 ·split at h
  ·rename_i v h1;obtain⟨v,h2,rfl⟩:=zfI h;exact zly hr he h1 h2
  ·cases h
 ·split at h
  ·rename_i l h1;obtain⟨v,h2,rfl⟩:=zfI h;exact zkv hr he h1 h2
  ·cases h
 ·split at h
  ·rename_i f args h1 h2
   obtain⟨xs,q1,q2⟩:=zbF he h2
   split at h
   ·rename_i f' first cap h3
    obtain⟨xf,q3,a',b',rfl,q4,q5⟩:=he _ _ h3
    rcases h with⟨_,rfl⟩|⟨h,_⟩
    ·exact⟨.call (.f f') (a'++xs++b'),by simp only[mop,h1,q1,q3],rfl,(q4.append q2).append q5⟩
    ·cases h
   ·rename_i loc h3
    obtain⟨xf,q3,mm,q4,rfl⟩:=he _ _ h3
    rcases h with⟨_,rfl⟩|⟨h,_⟩
    ·exact⟨.call (.y mm) xs,by simp only[mop,h1,q1,q3],q4,q2⟩
    ·cases h
   ·cases h
  ·rename_i b args h1 h2
   obtain⟨xs,q1,q2⟩:=zbF he h2
   obtain⟨rs,q3,q4⟩:=zki hr q2 h
   exact⟨rs,by simp only[mop,h1,q1,q3],q4⟩
  ·cases h
 ·split at h
  ·rename_i f args h1 h2
   obtain⟨xs,q1,q2⟩:=zbF he h2
   split at h
   ·rename_i f' first cap h3
    obtain⟨xf,q3,a',b',rfl,q4,q5⟩:=he _ _ h3
    rcases h with⟨_,rfl⟩|⟨h,_⟩
    ·exact⟨.dfr f' (a'++xs) b',by simp only[mop,h1,q1,q3],rfl,q4.append q2,q5⟩
    ·cases h
   ·cases h
  ·cases h
 ·cases h
end
end Go.Sx
