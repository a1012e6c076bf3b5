/- Machines and laws 4. -/
import Derived.Test.YtlfojfedfhpoiaaGreatDoorB3
import Derived.KernelRfl
open Go.IntKind renaming wrap->ya,bits->yj,signed->vJ,wrap_u32->vK,wrap_u64->vL,wrap_u8->vM
open List renaming length->yb,getElem?_eq_getElem->yi,length_drop->yn,getElem?_eq_some_iff->yq,set->yr,nil_append->yv,replicate->yx,cons_append->yB,take_succ_cons->yD,set_cons_succ->yG,set_cons_zero->yH,drop_zero->yI,getElem?_append_right->yK,take_zero->yM,drop_eq_nil_of_le->yN,append_assoc->yP,all_eq_true->yR,length_take->yS,getElem?_append_left->yT,mem_range->yV,getElem?_eq_none->yW,length_cons->yX,append_nil->yY,range->yZ,mem_cons_self->ve,take->vh,eq_nil_of_length_eq_zero->vj,getLast?_eq_getElem?->vk,mem_cons->vl,length_eq_zero_iff->vm,getElem?_set_ne->vv,isPrefixOf->vA,all_cons->vB
open Int renaming toNat->yc,toNat_natCast->yg,tmod->yh,tdiv->yp,fdiv->yy
open Option renaming bind->yd,bind_some->ye,map_some->vi
open UInt8 renaming ofNat->yf,toNat->ym,lt_iff_toNat_lt->vn
open Nat renaming blt->yk,le_refl->yw,ble->yF,le_of_ble_eq_true->yO,zero_le->yQ,sub_zero->yU,lt_irrefl->vd,lt_of_lt_of_le->vg,sub_self->vo,zero_add->vp,le_trans->vq,pow_succ->vt,eq_of_beq_eq_true->vu,pow_le_pow_right->vw,mul_le_mul_left->vy,lt_trichotomy->vz,reduceSub->vD,reducePow->vE,pow_add->vF,blt_eq->vG,beq->vI
open Option.some renaming injEq->yo,inj->vH
open Bool renaming not_true->yu,and_true->yA,not_false->yC,and_eq_true->yJ,false_eq_true->yL,true_and->vC
open List.cons renaming injEq->yz
open Prod.mk renaming injEq->yE
set_option linter.unusedVariables false
set_option linter.unusedSectionVars false
set_option linter.unusedSimpArgs false
set_option maxRecDepth 100000
namespace Go.Sx
open Go Go.Gx Go.Mx
variable [kF]
section
variable (P:Program) (gl:GL) (ct:CT) {R:Type}
end
section
variable {P:Program} {gl:GL} {ct:CT} {hk:wJ} {q:FuncId->Bool} {l:List Oper} {env0:Arr AV} {X0 X:Gst} {recs:List Rec} {env:List SV} {h:SH} {me:Arr AV}
def zzj(fn:Func)(p:List Nat):Code:=match fn.body with
 |some c=>zqs c p
 |none=>.skip
end
def zAq(P:Program)(gl:GL)(ct:CT)(n:Nat)(pl:Pl)(id:Nat)(g:Operand):LF:=fun R st K=>match sev gl st.env g with
 |some (.fn f first cap)=>match(P.funcs[f]?).bind (·.body) with
  |some _=>zao P gl ct n (pl.at 0 f) f (first++[.yld st.h.length]++cap) (st.h++[.loop st.env id 0]) fun r=>match r with
   |.ret _ h2=>match h2[st.h.length]? with
    |some (.loop _ _ 0)=>K .normal ⟨st.env,h2.set st.h.length .gone⟩
    |_=>none
   |.pan _ _=>none
  |none=>none
 |_=>none
section
variable {P:Program} {gl:GL} {ct:CT} {hk:wJ}
theorem zpn(hct:zm9 P gl ct hk){n:Nat}{pl:Pl}{id:Nat}{ps:Array Tmp}{asg body:Code}(hc:kF.at_ id=some (ps,asg,body)){f:FuncId}(hpl:∀ fn b,P.funcs[f]?=some fn->fn.body=some b->xx P gl hk pl b)
  {k:Nat×Option Nat} {X:Gst} {st:SS} {env:Arr AV} {dl:List Dfd} {rnd:Option Nat} (henv:RVs X st.env env.toL) (hsh:X.sh=st.h) (hdk:Dk k X dl rnd) (hr:RH X) (hg:RGl P gl X) {first cap:List SV} {mf mc:List AV} (hf:RVs X first mf) (hcp:RVs X cap mc)
  {R:Type} {K:SX->SS->Option R} {r:R} (h:zao P gl ct n pl f (first++[.yld st.h.length]++cap) (st.h++[.loop st.env id 0]) (fun r=>match r with
   |.ret _ h2=>match h2[st.h.length]? with
    |some (.loop _ _ 0)=>K .normal ⟨st.env,h2.set st.h.length .gone⟩
    |_=>none
   |.pan _ _=>none)=some r):
  ∃ st' Y ms',K .normal st'=some r/\Stp X Y/\StR k Y st' ms'/\Ev fun m=>kk X.h.length env dl rnd (jU P hk (jO P hk m) (.f f) (mf++[.yld X.h.length]++mc) (X.h++[Blk.loop env ps asg body .ready none]))=some (.normal,ms'):=by
 have S1:=Stp.push hr (b:=.loop st.env id 0) (blk:=.loop env ps asg body .ready none) (by simp [SB.md]) (fun hle=>⟨X.h.length,env,ps,asg,body,rfl,hc,by
  show(X.h++[_])[X.h.length]?=_
  rw[Arr.z7 (yw _),vo];rfl,henv.le hle⟩)
 generalize hX1:(⟨X.h++[Blk.loop env ps asg body .ready none],X.Φ,X.σ++[some (X.h.length,0)],X.sh++[.loop st.env id 0]⟩:Gst)=X1 at S1
 have hσ1:X1.σ[st.h.length]?=some (some (X.h.length,0)):=by
  rw[<- hX1,<- hsh,<- hr.len]
  show(X.σ++[_])[X.σ.length]?=_
  rw[yK (yw _),vo];rfl
 have hargs:RVs X1 (first++[.yld st.h.length]++cap) (mf++[.yld X.h.length]++mc):=((hf.le S1.le).append (.one (show RV X1 (.yld st.h.length) (.yld X.h.length) from⟨_,⟨0,hσ1⟩,rfl⟩))).append (hcp.le S1.le)
 have hsh1:X1.sh=st.h++[.loop st.env id 0]:=by rw[<- hX1,<- hsh]
 have hh1:X1.h=X.h++[Blk.loop env ps asg body .ready none]:=by rw[<- hX1]
 rw[<- hsh1] at h
 obtain⟨q,Y,mq,h1,S2,hcr,ev⟩:=(zcB hct n).2.2.1 pl f hpl R _ _ r X1 _ h hargs S1.hr (hg.le S1.le)
 cases q with
 |pan v sh=>cases h1
 |ret v sh=>
  cases mq with
  |pan=>cases hcr
  |ret x h'=>
   obtain⟨e1,e2,hv⟩:=hcr
   simp only at h1
   split at h1
   ·rename_i env2 id2 hb
    rw[<- e1] at hb
    obtain⟨v',hσ2⟩:=S2.le.at_ _ _ _ hσ1
    obtain⟨m',env3,ps3,asg3,body3,e3,_,hrow,_⟩:=S2.hr.blk _ _ _ hb hσ2
    cases e3
    have hm:=S2.hr.lt _ _ _ hσ2
    have S3:Stp Y ⟨Y.h.set X.h.length (.loop env3 ps3 asg3 body3 .exhausted none),Y.Φ,Y.σ,Y.sh.set st.h.length .gone⟩:=
     Stp.turn S2.hr (b':=.gone) (o':=some (X.h.length,0)) hb hσ2 (by simp) (fun m hm' hne=>Arr.zY fun e=>hne 0 (e ▸ rfl)) (fun _ _ _=>.inr rfl) (by show _<=(Y.h.set _ _).length;rw[Arr.length_set];exact yw _) (fun m=>⟨.inl,fun h=>h.elim (fun h=>h) fun h=>by cases h.1⟩) (wK hσ2).symm rfl
      (fun _ _ e=>by cases e;exact⟨by show _<(Y.h.set _ _).length;rw[Arr.length_set];exact hm,.inl ⟨_,rfl⟩⟩) (fun m v e=>⟨v,e⟩) (fun _ _ _ _ e=>by cases e) (fun h=>absurd rfl h) (fun _=>.inr rfl) fun _=>trivial
    have S:=S1.trans (S2.trans S3)
    refine⟨_,_,⟨env,Y.h.set X.h.length (.loop env3 ps3 asg3 body3 .exhausted none),dl,rnd⟩,h1,S,⟨henv.le S.le,by rw[<- e1],rfl,hdk.step hr S⟩,ev.mono fun m p=>?_⟩
    rw[hh1] at p
    rw[p]
    simp only[kk,<- e2,hrow,zkW]
   ·cases h1
theorem zsG(hct:zm9 P gl ct hk){n:Nat}{pl:Pl}{id:Nat}{g:Operand}{ps:Array Tmp}{asg body:Code}(hc:kF.at_ id=some (ps,asg,body))(hpl:∀ f fn b,P.funcs[f]?=some fn->fn.body=some b->xx P gl hk (pl.at 0 f) b):
  zkd P gl hk (.rangeFunc g ps asg body) (zAq P gl ct n pl id g):=by
 intro k R st K r X ms h hst hr hg
 unfold zAq at h
 split at h
 ·rename_i f first cap hev
  split at h
  ·rename_i bd hbd
   obtain⟨x,q1,mf,mc,rfl,hf,hcp⟩:=zgc hst.env hg hev
   rw[hst.h] at q1
   have hsome:((P.funcs[f]?).bind (·.body)).isSome=true:=by rw[hbd];rfl
   cases hk2:ms.rnd with
   |none=>
    have S1:=Stp.grow hr [Blk.dfr]
    have hlen:(X.h++[Blk.dfr]).length=X.h.length+1:=by rw[Arr.ql];rfl
    have D0:=hst.dk.step hr S1
    have D1:Dk k ⟨X.h++[Blk.dfr],X.Φ,X.σ,X.sh⟩ (.mark X.h.length::ms.dl) ms.rnd:=by
     refine⟨D0.base,List.nodup_cons.2 ⟨fun hin=>?_,D0.nd⟩,fun d hd=>?_,D0.rnd,D0.lo⟩
     ·obtain⟨m,e,_,_,hk,_⟩:=hst.dk.dl _ hin
      cases e
      exact absurd hk.lt (vd _)
     ·rcases vl.1 hd with rfl|hd
      ·refine⟨X.h.length,rfl,hst.dk.base,by show(X.h++[_])[X.h.length]?=_;rw[Arr.z7 (yw _),vo];rfl,⟨by show _<(X.h++[Blk.dfr]).length;rw[hlen];omega,fun e=>absurd (hr.Φlt _ e) (vd _),fun i v b _ e=>absurd (hr.lt _ _ _ e) (vd _)⟩,fun i v e=>absurd (hr.lt _ _ _ e) (vd _)⟩
      ·exact D0.dl d hd
    obtain⟨st',Y,ms',h1,S2,hs2,ev⟩:=zpn hct hc (hpl f) (X:=⟨X.h++[Blk.dfr],X.Φ,X.σ,X.sh⟩) (hst.env.le S1.le) hst.sh D1 S1.hr (hg.le S1.le) (hf.le S1.le) (hcp.le S1.le) h
    refine⟨.normal,st',Y,.normal,ms',h1,S1.trans S2,hs2,trivial,Ev.succ (ev.mono fun m p=>?_)⟩
    simp only[jO,qB,zfV,q1,hk2]
    rw[if_pos hsome,<- hst.h]
    simp only[hlen,hk2] at p
    exact p
   |some lo=>
    have hk3:k.2=some lo:=by rw[<- hst.dk.rnd,hk2]
    obtain⟨⟨e5,ps5,a5,b5,s5,p5,hlo⟩,_⟩:=hst.dk.lo lo hk3
    obtain⟨st',Y,ms',h1,S2,hs2,ev⟩:=zpn hct hc (hpl f) hst.env hst.sh hst.dk hr hg hf hcp h
    refine⟨.normal,st',Y,.normal,ms',h1,S2,hs2,trivial,Ev.succ (ev.mono fun m p=>?_)⟩
    simp only[jO,qB,zfV,q1,hk2]
    rw[if_pos hsome,<- hst.h,hlo]
    simp only[hk2] at p
    exact p
  ·cases h
 ·cases h
end
def zsF(fn:Func)(p:List Nat):Option (Array Tmp×Code×Code):=match fn.body with
 |some c=>match zqs c p with
  |.rangeFunc _ ps asg body=>some (ps,asg,body)
  |_=>none
 |none=>none
def zuF(P:Program)(gl:GL)(ct:CT)(fn:Func)(p:List Nat)(id:Nat)(pl:Pl)(n:Nat:=1500):LF:=match fn.body with
 |some c=>match zqs c p with
  |.rangeFunc g _ _ _=>zAq P gl ct n pl id g
  |_=>fun _ _ _=>none
 |none=>fun _ _ _=>none
section
variable {P:Program} {gl:GL} {hk:wJ} {al:List FuncId} (hh:zpH P hk al) {T:FT} (hT:zi1 P gl hk T)
include hh hT
theorem zCF{n:Nat}{pl:Pl}{id:Nat}{g:Operand}{ps:Array Tmp}{asg body:Code}{ls:List (Code×LF)}(ha:(al.all fun f=>zo0 T f)=true)(hs:zc4 P gl hk ls)(hc:kF.at_ id=some (ps,asg,body))(h:qm P pl .skip=some ls):
  zkd P gl hk (.rangeFunc g ps asg body) (zAq P gl (zfj T) n pl id g):=zsG (ztX hh ha hT) hc fun f fn b hf hb=>xx.at_ hf hb (kW h hs)
theorem zB1(fn:Func)(p:List Nat)(id:Nat)(pl:Pl){ls:List (Code×LF)}(hs:zc4 P gl hk ls)(n:Nat:=1500)
  (ha:(al.all fun f=>zo0 T f)=true:=by rfl) (hc:kF.at_ id=zsF fn p:=by rfl) (hr:(zsF fn p).isSome=true:=by rfl) (h:qm P pl .skip=some ls:=by kernel_rfl):
  zkd P gl hk (zzj fn p) (zuF P gl (zfj T) fn p id pl n):=by
 unfold zsF at hc hr
 unfold zzj zuF
 cases hb:fn.body with
 |none=>rw[hb] at hr;cases hr
 |some c=>
  rw[hb] at hc hr
  simp only at hc hr |-
  generalize zqs c p=d at *
  cases d<;>first|(cases hr;done)|skip
  exact zCF hh hT ha hs hc h
end
end Go.Sx
namespace Go.Sx
open Go Go.Gx Go.Mx
variable [kF]
def zca:Code->Bool
 |.skip|.label _|.ret|.exit _|.region _ _ _=>true
 |.seq a b=>zca a&&zca b
 |.cond _ a b=>zca a&&zca b
 |.block _ c=>zca c
 |.loop c=>zca c
 |_=>false
def za6(st:St)(d:List Dfd):St:=⟨st.env,st.h,st.dl++d,st.rnd⟩
def zpJ:OR->List Dfd->OR
 |.ok env h mk,d=>.ok env h (mk++d)
 |.pan v env h mk,d=>.pan v env h (mk++d)
theorem ziM{h:zg}{mk d:List Dfd}{o:Option (Arr AV)}{r:OR}(q:zjY h mk o=some r):zjY h (mk++d) o=some (zpJ r d):=by
 cases o with
 |none=>cases q
 |some env=>cases q;rfl
theorem zud{call:Cal->List AV->zg->Option CR}{dst:Option Nat}{env:Arr AV}{h:zg}{mk d:List Dfd}{rnd:Option Nat}{r:OR}{q:Rs}(k:zcS call dst env h mk rnd q=some r):zcS call dst env h (mk++d) rnd q=some (zpJ r d):=by
 cases q with
 |val v h'=>exact ziM k
 |unit h'=>exact ziM k
 |call f args=>
  simp only[zcS] at k |-
  split at k
  ·exact ziM k
  ·cases k;rfl
  ·cases k
 |dfr f args cap=>
  simp only[zcS] at k |-
  split at k
  ·exact ziM (d:=d) k
  ·cases k
theorem zuf{P:Program}{call:Cal->List AV->zg->Option CR}{o:Oper}{env:Arr AV}{h:zg}{mk d:List Dfd}{rnd:Option Nat}{r:OR}(k:zby P call o env h mk rnd=some r):zby P call o env h (mk++d) rnd=some (zpJ r d):=by
 unfold zby at k |-
 split at k
 ·split at k
  ·cases k;rfl
  ·cases k
 ·split at k
  ·exact zud k
  ·cases k
theorem zn1{P:Program}{call:Cal->List AV->zg->Option CR}{ops:Array Oper}{rnd:Option Nat}{d:List Dfd}:∀ {l:List Oper} {env:Arr AV} {h:zg} {mk:List Dfd} {r:OR},zdB P call ops rnd l env h mk=some r->zdB P call ops rnd l env h (mk++d)=some (zpJ r d)
 | [],env,h,mk,r,k=>by cases k;rfl
 |o::l,env,h,mk,r,k=>by
  simp only[zdB] at k |-
  cases hw:want ops o env with
  |true=>
   simp only[hw] at k |-
   cases he:zby P call o env h mk rnd with
   |none=>rw[he] at k;cases k
   |some q=>
    rw[he] at k
    rw[zuf he]
    cases q with
    |ok env' h' mk'=>exact zn1 k
    |pan v env' h' mk'=>cases k;rfl
  |false=>
   simp only[hw] at k |-
   split at k
   ·exact zn1 k
   ·cases k
theorem zsd{rnd:Option Nat}{o:Option OR}{d:List Dfd}{e:Ex}{st:St}(k:zji rnd o=some (e,st)):zji rnd (o.map fun r=>zpJ r d)=some (e,za6 st d):=by
 cases o with
 |none=>cases k
 |some r=>cases r<;>cases k<;>rfl
theorem zrR{P:Program}{q:FuncId->Bool}{call:Cal->List AV->zg->Option CR}{ops:List Oper}{env:Arr AV}{h:zg}{mk d:List Dfd}{r:OR}(k:zat P q call ops env h mk=some r):zat P q call ops env h (mk++d)=some (zpJ r d):=by
 unfold zat at k |-
 split at k
 ·unfold zgz at k |-
  split at k
  ·cases k
  ·split at k
   ·exact ziM k
   ·cases k
 ·cases k
theorem zuh{p:Option Code}{st st':St}{e:Ex}{d:List Dfd}(k:zkW p st=some (e,st')):zkW p (za6 st d)=some (e,za6 st' d):=by
 unfold zkW at k |-
 split at k<;>first|(cases k;rfl)|cases k
theorem zg1{l:Nat}{env:Arr AV}{dl d:List Dfd}{rnd:Option Nat}{o:Option CR}{e:Ex}{st:St}(k:kk l env dl rnd o=some (e,st)):kk l env (dl++d) rnd o=some (e,za6 st d):=by
 unfold kk at k |-
 split at k
 ·split at k
  ·split at k
   ·cases k
   ·exact zuh k
  ·cases k
 ·cases k;rfl
 ·cases k
theorem zr5{P:Program}{call:Cal->List AV->zg->Option CR}{g:Operand}{ps:Array Tmp}{asg body:Code}{st st':St}{e:Ex}{d:List Dfd}(k:zfV P call g ps asg body st=some (e,st')):zfV P call g ps asg body (za6 st d)=some (e,za6 st' d):=by
 obtain⟨env,h,dl,rnd⟩:=st
 unfold zfV at k |-
 simp only[za6] at k |-
 split at k
 ·split at k
  ·rename_i hc
   rw[if_pos hc]
   split at k
   ·exact zg1 (d:=d) k
   ·split at k
    ·exact zg1 (d:=d) k
    ·cases k
  ·cases k
 ·cases k
theorem zub{P:Program}{qs:FuncId->Bool}{run:Code->St->Option (Ex×St)}{call:Cal->List AV->zg->Option CR}(ih:∀ (c:Code) (st:St) (e:Ex) (st':St),run c st=some (e,st')->∀ d,run c (za6 st d)=some (e,za6 st' d))(c:Code)(st:St)(e:Ex)(st':St)(h:qB P qs run call c st=some (e,st'))(d:List Dfd):qB P qs run call c (za6 st d)=some (e,za6 st' d):=by
 cases c with
 |skip=>cases h;rfl
 |label=>cases h;rfl
 |ret=>cases h;rfl
 |exit=>cases h;rfl
 |region id ops b=>
  cases b with
  |false=>
   show zji st.rnd (zdB P call ops st.rnd ops.toList st.env st.h (st.dl++d))=_
   have h:zji st.rnd (zdB P call ops st.rnd ops.toList st.env st.h st.dl)=some (e,st'):=h
   cases ho:zdB P call ops st.rnd ops.toList st.env st.h st.dl with
   |none=>rw[ho] at h;cases h
   |some r=>rw[ho] at h;rw[zn1 ho];exact zsd (d:=d) h
  |true=>
   show zji st.rnd (zat P (zhw P qs ops.toList) call ops.toList st.env st.h (st.dl++d))=_
   have h:zji st.rnd (zat P (zhw P qs ops.toList) call ops.toList st.env st.h st.dl)=some (e,st'):=h
   cases ho:zat P (zhw P qs ops.toList) call ops.toList st.env st.h st.dl with
   |none=>rw[ho] at h;cases h
   |some r=>rw[ho] at h;rw[zrR ho];exact zsd (d:=d) h
 |seq a b=>
  simp only[qB] at h |-
  cases hr:run a st with
  |none=>rw[hr] at h;cases h
  |some p=>
   obtain⟨e1,st1⟩:=p
   rw[hr] at h
   rw[ih a st e1 st1 hr d]
   cases e1 with
   |normal=>exact ih b st1 e st' h d
   |_=>cases h;rfl
 |cond o a b=>
  simp only[qB] at h |-
  show(match mev P st.env st.h o with|some (.bool true)=>run a (za6 st d)|some (.bool false)=>run b (za6 st d)|_=>none)=_
  split at h
  ·rename_i hv;rw[hv];exact ih a st e st' h d
  ·rename_i hv;rw[hv];exact ih b st e st' h d
  ·cases h
 |block id a=>
  simp only[qB] at h |-
  cases hr:run a st with
  |none=>rw[hr] at h;cases h
  |some p=>
   obtain⟨e1,st1⟩:=p
   rw[hr] at h
   rw[ih a st e1 st1 hr d]
   cases e1 with
   |exit j=>
    simp only at h |-
    split at h
    ·rename_i hj;rw[if_pos hj];cases h;rfl
    ·rename_i hj;rw[if_neg hj];cases h;rfl
   |_=>cases h;rfl
 |loop a=>
  simp only[qB] at h |-
  cases hr:run a st with
  |none=>rw[hr] at h;cases h
  |some p=>
   obtain⟨e1,st1⟩:=p
   rw[hr] at h
   rw[ih a st e1 st1 hr d]
   cases e1 with
   |normal=>exact ih (.loop a) st1 e st' h d
   |_=>cases h;rfl
 |rangeFunc=>exact zr5 h
 |_=>cases h
theorem zr6{P:Program}{hk:wJ}:∀ (n:Nat) (c:Code) (st:St) (e:Ex) (st':St),jO P hk n c st=some (e,st')->∀ d,jO P hk n c (za6 st d)=some (e,za6 st' d)
 |0,c,st,e,st',h,d=>by cases h
 |n+1,c,st,e,st',h,d=>zub (zr6 n) c st e st' h d
theorem ze6{P:Program}{call:Cal->List AV->zg->Option CR}{ops:Array Oper}{rnd:Option Nat}{l2:List Oper}:∀ {l1:List Oper} {env:Arr AV} {h:zg} {mk:List Dfd},zdB P call ops rnd (l1++l2) env h mk=match zdB P call ops rnd l1 env h mk with
  |some (.ok env' h' mk')=>zdB P call ops rnd l2 env' h' mk'
  |r=>r
 | [],env,h,mk=>rfl
 |o::l,env,h,mk=>by
  simp only[yB,zdB]
  cases want ops o env with
  |true=>
   simp only
   cases hx:zby P call o env h mk rnd with
   |none=>rfl
   |some r=>cases r with
    |ok a b c=>exact ze6
    |pan=>rfl
  |false=>
   simp only
   cases hx:zjp env o.dst .undef with
   |none=>rfl
   |some e=>exact ze6
inductive SPn where
 |no|up (v:SV)|re (v:SV)
def SPn.settle:SPn->SPn
 |.re _=>.no
 |p=>p
def SPn.got:SPn->SV
 |.up v=>v
 |_=>.a .zer
def SPn.zfw:SPn->SPn
 |.up v=>.re v
 |p=>p
def PnR(X:Gst):SPn->Pn->Prop
 |.no,.no=>True
 |.up v,.up x=>RV X v x
 |.re v,.re x=>RV X v x
 |_,_=>False
theorem PnR.le{X Y:Gst}(hl:X.le Y):∀ {p:SPn} {q:Pn},PnR X p q->PnR Y p q
 |.no,.no,_=>trivial
 |.up _,.up _,h=>RV.le hl h
 |.re _,.re _,h=>RV.le hl h
theorem PnR.got{X:Gst}:∀ {p:SPn} {q:Pn},PnR X p q->RV X p.got q.got
 |.no,.no,_=>rfl
 |.up _,.up _,h=>h
 |.re _,.re _,_=>rfl
theorem PnR.zfw{X:Gst}:∀ {p:SPn} {q:Pn},PnR X p q->PnR X p.zfw q.zfw
 |.no,.no,_=>trivial
 |.up _,.up _,h=>h
 |.re _,.re _,h=>h
theorem PnR.settle{X:Gst}:∀ {p:SPn} {q:Pn},PnR X p q->PnR X p.settle q.settle
 |.no,.no,_=>trivial
 |.up _,.up _,h=>h
 |.re _,.re _,_=>trivial
abbrev SDd:=FuncId×List SV×List SV
def DdR(X:Gst):Option SDd->List Dfd->Prop
 |none,l=>l=[]
 |some (f,a,c),l=>∃ a' c',l=[.call f a' c']/\RVs X a a'/\RVs X c c'
theorem DdR.le{X Y:Gst}(hl:X.le Y):∀ {d:Option SDd} {l:List Dfd},DdR X d l->DdR Y d l
 |none,_,h=>h
 |some _,_,⟨a',c',h1,h2,h3⟩=>⟨a',c',h1,RVs.le hl h2,RVs.le hl h3⟩
def znt(ops:List Oper):Option (List Oper×Oper):=match ops.getLast? with
 |some o=>match o.op,o.guard with
  |.defer _,none=>some (ops.dropLast,o)
  |_,_=>none
 |none=>none
theorem zlH{ops l:List Oper}{o:Oper}(h:znt ops=some (l,o)):ops=l++[o]/\o.guard=none/\∃ c,o.op=.defer c:=by
 unfold znt at h
 split at h
 ·rename_i o' ho
  split at h
  ·rename_i c h1 h2
   cases h
   refine⟨?_,h2,c,h1⟩
   obtain⟨ys,rfl⟩:=List.getLast?_eq_some_iff.1 ho
   simp
  ·cases h
 ·cases h
section
variable (P:Program) (gl:GL) (ct:CT) {R:Type}
def sdf(n:Nat):Pl->Code->SS->(Option SDd->SX->SS->Option R)->Option R
 |pl,.seq a b,st,K=>sdf n pl.l a st fun d e st'=>match e with
  |.normal=>match d with
   |none=>sdf n pl.r b st' K
   |some d=>zap P gl ct n pl.r b st' fun e s=>K (some d) e s
  |e=>K d e st'
 |pl,.region id ops false,st,K=>match znt ops.toList with
  |some (l,o)=>zlt P gl ct n pl ops 0 l st fun e st'=>match e with
   |.normal=>match sop P gl (sev gl st'.env) st'.h o.op with
    | [(true,.dfr f args cap)]=>match zaD st'.env o.dst (.tup []) with
     |some env=>K (some (f,args,cap)) .normal ⟨env,st'.h⟩
     |none=>none
    |_=>none
   |e=>K none e st'
  |none=>zap P gl ct n pl (.region id ops false) st fun e st'=>K none e st'
 |pl,c,st,K=>zap P gl ct n pl c st fun e st'=>K none e st'
def sdc(n:Nat):Pl->Code->SS->SPn->(SX->SS->SPn->Option R)->Option R
 |pl,.seq a b,st,pn,K=>sdc n pl.l a st pn fun e st' pn'=>match e with
  |.normal=>sdc n pl.r b st' pn' K
  |e=>K e st' pn'
 |pl,.region id ops false,st,pn,K=>match ops.toList with
  | [o]=>match isRec o with
   |true=>match zaD st.env o.dst pn.got with
    |some env=>K .normal ⟨env,st.h⟩ pn.zfw
    |none=>none
   |false=>zap P gl ct n pl (.region id ops false) st fun e st'=>K e st' pn
  |_=>zap P gl ct n pl (.region id ops false) st fun e st'=>K e st' pn
 |pl,c,st,pn,K=>zap P gl ct n pl c st fun e st'=>K e st' pn
def zv7(n:Nat)(f:FuncId)(args:List SV)(h:SH)(pn:SPn)(K:SH->SPn->Option R):Option R:=match P.funcs[f]? with
 |some fn=>match fn.body with
  |some c=>match yF args.length fn.ntmps&&zca c with
   |true=>sdc P gl ct n .auto c ⟨args++yx (fn.ntmps-args.length) (.tup []),h⟩ pn fun e st pn'=>match e with
    |.panic _=>none
    |.exit _=>none
    |_=>match ztK P gl st.env st.h fn.results.toList with
     |some _=>K st.h pn'.settle
     |none=>none
   |false=>none
  |none=>none
 |none=>none
def zzA(fn:Func)(env:List SV)(κ:SC->Option R)(h:SH)(pn:SPn):Option R:=match pn with
 |.no=>match ztK P gl env h fn.results.toList with
  |some vs=>κ (.ret (zpi vs) h)
  |none=>none
 |.up v=>κ (.pan v h)
 |.re _=>none
def zCE:SX->Option SPn
 |.panic v=>some (.up v)
 |.exit _=>none
 |_=>some .no
def zs4(n:Nat)(pl:Pl)(f:FuncId)(args:List SV)(h:SH)(κ:SC->Option R):Option R:=match ct f with
 |some _=>none
 |none=>match P.funcs[f]? with
  |some fn=>match fn.body with
   |some c=>match yF args.length fn.ntmps&&zca c with
    |true=>sdf P gl ct n pl c ⟨args++yx (fn.ntmps-args.length) (.tup []),h⟩ fun d e st=>match zCE e with
     |none=>none
     |some pn=>match d with
      |none=>zzA P gl fn st.env κ st.h pn
      |some (f',a',c')=>zv7 P gl ct n f' (a'++c') st.h pn fun h2 pn2=>zzA P gl fn st.env κ h2 pn2
    |false=>none
   |none=>none
  |none=>none
end
section
variable {P:Program} {gl:GL} {ct:CT} {hk:wJ}
def zlX(d:Dfd):Prop:=∃ f a c,d=.call f a c
def zxM:OR->List Dfd
 |.ok _ _ mk=>mk
 |.pan _ _ _ mk=>mk
theorem znX{call:Cal->List AV->zg->Option CR}{dst:Option Nat}{env:Arr AV}{h:zg}{mk:List Dfd}{rnd:Option Nat}{r:OR}{q:Rs}(k:zcS call dst env h mk rnd q=some r):∀ d ∈ zxM r,d ∈ mk\/zlX d:=by
 have so:∀ {h' mk'} {o:Option (Arr AV)},zjY h' mk' o=some r->zxM r=mk':=fun {h' mk' o} q=>by cases o<;>cases q;rfl
 cases q with
 |val v h'=>rw[so k];exact fun d hd=>.inl hd
 |unit h'=>rw[so k];exact fun d hd=>.inl hd
 |call f args=>
  simp only[zcS] at k
  split at k
  ·rw[so k];exact fun d hd=>.inl hd
  ·cases k;exact fun d hd=>.inl hd
  ·cases k
 |dfr f args cap=>
  simp only[zcS] at k
  split at k
  ·rw[so k];exact fun d hd=>(vl.1 hd).elim (fun e=>.inr ⟨_,_,_,e⟩) .inl
  ·cases k
theorem zeo{P:Program}{call:Cal->List AV->zg->Option CR}{ops:Array Oper}{rnd:Option Nat}:∀ {l:List Oper} {env:Arr AV} {h:zg} {mk:List Dfd} {r:OR},zdB P call ops rnd l env h mk=some r->∀ d ∈ zxM r,d ∈ mk\/zlX d
 | [],env,h,mk,r,k=>by cases k;exact fun d hd=>.inl hd
 |o::l,env,h,mk,r,k=>by
  simp only[zdB] at k
  cases hw:want ops o env with
  |true=>
   simp only[hw] at k
   have hx:∀ r',zby P call o env h mk rnd=some r'->∀ d ∈ zxM r',d ∈ mk\/zlX d:=fun r' q=>by
    unfold zby at q
    split at q
    ·split at q
     ·cases q;exact fun d hd=>.inl hd
     ·cases q
    ·split at q
     ·exact znX q
     ·cases q
   cases he:zby P call o env h mk rnd with
   |none=>rw[he] at k;cases k
   |some r'=>
    rw[he] at k
    cases r' with
    |ok e1 h1 mk1=>exact fun d hd=>(zeo (l:=l) k d hd).elim (fun q=>hx _ he d q) .inr
    |pan v e1 h1 mk1=>cases k;exact hx _ he
  |false=>
   simp only[hw] at k
   split at k
   ·exact zeo (l:=l) k
   ·cases k
theorem zjM{P:Program}{hk:wJ}:∀ (n:Nat) (c:Code) (st:St) (e:Ex) (st':St),jO P hk n c st=some (e,st')->zca c=true->∀ d ∈ st'.dl,d ∈ st.dl\/zlX d
 |0,c,st,e,st',h,_=>by cases h
 |n+1,c,st,e,st',h,hn=>by
  have ih:=zjM (P:=P) (hk:=hk) n
  have two:∀ {a b:Code} {e1 e2:Ex} {s1 s2 s3:St},jO P hk n a s1=some (e1,s2)->zca a=true->jO P hk n b s2=some (e2,s3)->zca b=true->∀ d ∈ s3.dl,d ∈ s1.dl\/zlX d:=
   fun q1 n1 q2 n2 d hd=>(ih _ _ _ _ q2 n2 d hd).elim (fun q=>ih _ _ _ _ q1 n1 d q) .inr
  simp only[jO] at h
  cases c with
  |skip=>cases h;exact fun d hd=>.inl hd
  |label=>cases h;exact fun d hd=>.inl hd
  |ret=>cases h;exact fun d hd=>.inl hd
  |exit=>cases h;exact fun d hd=>.inl hd
  |region id ops b=>
   cases b with
   |false=>
    simp only[qB] at h
    cases hm:zdB P (jU P hk (jO P hk n)) ops st.rnd ops.toList st.env st.h st.dl with
    |none=>rw[hm] at h;cases h
    |some r=>
     rw[hm] at h
     have:=zeo hm
     cases r<;>(cases h;exact this)
   |true=>
    simp only[qB] at h
    cases hm:zat P (zhw P (qfn P hk 4) ops.toList) (jU P hk (jO P hk n)) ops.toList st.env st.h st.dl with
    |none=>rw[hm] at h;cases h
    |some r=>
     rw[hm] at h
     have:zxM r=st.dl:=by
      unfold zat at hm
      split at hm
      ·unfold zgz at hm
       split at hm
       ·cases hm
       ·split at hm
        ·generalize zvE _ _ _=o at hm
         cases o<;>cases hm;rfl
        ·cases hm
      ·cases hm
     cases r<;>(cases h;exact fun d hd=>.inl (by rw[<- this];exact hd))
  |seq a b=>
   simp only[zca,yJ] at hn
   simp only[qB] at h
   cases ha:jO P hk n a st with
   |none=>rw[ha] at h;cases h
   |some x=>
    obtain⟨e1,s1⟩:=x
    rw[ha] at h
    cases e1 with
    |normal=>exact two ha hn.1 h hn.2
    |_=>cases h;exact ih _ _ _ _ ha hn.1
  |cond x a b=>
   simp only[zca,yJ] at hn
   simp only[qB] at h
   split at h
   ·exact ih _ _ _ _ h hn.1
   ·exact ih _ _ _ _ h hn.2
   ·cases h
  |block id a=>
   simp only[zca] at hn
   simp only[qB] at h
   cases ha:jO P hk n a st with
   |none=>rw[ha] at h;cases h
   |some x=>
    obtain⟨e1,s1⟩:=x
    rw[ha] at h
    have q:=ih _ _ _ _ ha hn
    cases e1 with
    |exit i=>
     simp only at h
     split at h<;>(cases h;exact q)
    |_=>cases h;exact q
  |loop a=>
   have hn':zca a=true:=hn
   simp only[qB] at h
   cases ha:jO P hk n a st with
   |none=>rw[ha] at h;cases h
   |some x=>
    obtain⟨e1,s1⟩:=x
    rw[ha] at h
    cases e1 with
    |normal=>exact two ha hn' h hn
    |_=>cases h;exact ih _ _ _ _ ha hn'
  |_=>cases hn
theorem zk0{P:Program}{hk:wJ}{k:Nat×Option Nat}{X:Gst}{st:SS}{ms ms':St}{c:Code}{e:Ex}(h:StR k X st ms')(h0:ms.dl=[])(hn:zca c=true)(hr:Ev fun n=>jO P hk n c ms=some (e,ms')):ms'.dl=[]:=by
 obtain⟨n,hr⟩:=hr
 have q:=zjM n c ms e ms' (hr n (yw _)) hn
 cases hd:ms'.dl with
 |nil=>rfl
 |cons d l=>
  rw[hd] at q
  obtain⟨m,e1,_⟩:=h.dk.dl d (by rw[hd];exact ve)
  rcases q d ve with q|⟨f,a,c,q⟩
  ·rw[h0] at q;cases q
  ·rw[e1] at q;cases q
theorem zsl{X:Gst}{args:List SV}{margs:List AV}(h:RVs X args margs)(k:Nat):RVs X (args++yx (k-args.length) (.tup [])) (Arr.of (margs++yx (k-margs.length) AV.undef)).toL:=by
 rw[Arr.zpB,h.length]
 refine h.append ?_
 generalize k-args.length=k
 induction k with
 |zero=>rfl
 |succ k ih=>exact⟨_,_,rfl,⟨[],rfl,rfl⟩,ih⟩
theorem ExR.ne{X:Gst}{e:SX}{me:Ex}(h:ExR X e me)(he:e≠.normal):me≠.normal:=by
 cases e<;>cases me<;>first|exact absurd rfl he|(intro hh;cases hh;done)|(cases h;done)
theorem zsZ{k0:Nat×Option Nat}(hct:zm9 P gl ct hk)(n:Nat){R:Type}:∀ (c:Code) (pl:Pl),xx P gl hk pl c->zca c=true->∀ (st:SS) (pn:SPn) (K:SX->SS->SPn->Option R) (r:R) (X:Gst) (ms:St) (mpn:Pn),sdc P gl ct n pl c st pn K=some r->StR k0 X st ms->ms.dl=[]->RH X->RGl P gl X->PnR X pn mpn ->
  ∃ e st' pn' Y me ms' mpn',K e st' pn'=some r/\Stp X Y/\StR k0 Y st' ms'/\ms'.dl=[]/\ExR Y e me/\PnR Y pn' mpn'/\Ev fun m=>mdc (jO P hk m) c ms mpn=some (me,ms',mpn'):=by
 have base:∀ (c:Code) (pl:Pl),xx P gl hk pl c->zca c=true->∀ (st:SS) (pn:SPn) (K:SX->SS->SPn->Option R) (r:R) (X:Gst) (ms:St) (mpn:Pn),(∀ m,mdc (jO P hk m) c ms mpn=zgi mpn (jO P hk m c ms))->zap P gl ct n pl c st (fun e st'=>K e st' pn)=some r->StR k0 X st ms->ms.dl=[]->RH X->RGl P gl X->PnR X pn mpn ->
   ∃ e st' pn' Y me ms' mpn',K e st' pn'=some r/\Stp X Y/\StR k0 Y st' ms'/\ms'.dl=[]/\ExR Y e me/\PnR Y pn' mpn'/\Ev fun m=>mdc (jO P hk m) c ms mpn=some (me,ms',mpn'):=by
  intro c pl hpl hn st pn K r X ms mpn hm h hst h0 hr hg hp
  obtain⟨e,st',Y,me,ms',h1,S1,hs1,he1,ev1⟩:=(zcB hct n).1 pl c hpl k0 _ _ _ _ X ms h hst hr hg
  exact⟨e,st',pn,Y,me,ms',mpn,h1,S1,hs1,zk0 hs1 h0 hn ev1,he1,hp.le S1.le,ev1.mono fun m p=>by rw[hm,p];rfl⟩
 intro c
 induction c with
 |seq a b iha ihb=>
  intro pl hpl hn st pn K r X ms mpn h hst h0 hr hg hp
  obtain⟨ha,hb⟩:=hpl.l2
  simp only[zca,yJ] at hn
  simp only[sdc] at h
  obtain⟨e,st',pn',Y,me,ms',mpn',h1,S1,hs1,d1,he1,hp1,ev1⟩:=iha _ ha hn.1 st pn _ r X ms mpn h hst h0 hr hg hp
  cases e with
  |normal=>
   cases me<;>first|cases he1|skip
   obtain⟨e2,st2,pn2,Z,me2,ms2,mpn2,h2,S2,hs2,d2,he2,hp2,ev2⟩:=ihb _ hb hn.2 st' pn' K r Y ms' mpn' h1 hs1 d1 S1.hr (hg.le S1.le) hp1
   exact⟨e2,st2,pn2,Z,me2,ms2,mpn2,h2,S1.trans S2,hs2,d2,he2,hp2,(ev1.and ev2).mono fun m ⟨p,q⟩=>by simp only[mdc,p,q]⟩
  |_=>
   have hme:=he1.ne (by simp)
   refine⟨_,st',pn',Y,me,ms',mpn',h1,S1,hs1,d1,he1,hp1,ev1.mono fun m p=>?_⟩
   simp only[mdc,p]
   cases me<;>first|rfl|exact absurd rfl hme
 |region id ops b=>
  cases b with
  |true=>
   intro pl hpl hn st pn K r X ms mpn h hst h0 hr hg hp
   exact base _ pl hpl hn st pn K r X ms mpn (fun m=>rfl) h hst h0 hr hg hp
  |false=>
   intro pl hpl hn st pn K r X ms mpn h hst h0 hr hg hp
   simp only[sdc] at h
   split at h
   ·rename_i o ho
    split at h
    ·rename_i hrec
     split at h
     ·rename_i env he
      obtain⟨me',h1,h2⟩:=zcZ hst.env hp.got he
      exact⟨.normal,⟨env,st.h⟩,pn.zfw,X,.normal,⟨me',ms.h,ms.dl,ms.rnd⟩,mpn.zfw,h,.refl hr,⟨h2,hst.sh,hst.h,hst.dk⟩,h0,trivial,hp.zfw,Ev.all fun m=>by simp only[mdc,ho,hrec,h1]⟩
     ·cases h
    ·rename_i hrec
     exact base _ pl hpl hn st pn K r X ms mpn (fun m=>by simp only[mdc,ho,hrec]) h hst h0 hr hg hp
   ·rename_i hno
    refine base _ pl hpl hn st pn K r X ms mpn (fun m=>?_) h hst h0 hr hg hp
    simp only[mdc]
 |_=>
  intro pl hpl hn st pn K r X ms mpn h hst h0 hr hg hp
  exact base _ pl hpl hn st pn K r X ms mpn (fun m=>rfl) h hst h0 hr hg hp
theorem zs0{b0:Nat}(hct:zm9 P gl ct hk)(n:Nat){R:Type}:∀ (c:Code) (pl:Pl),xx P gl hk pl c->zca c=true->∀ (st:SS) (K:Option SDd->SX->SS->Option R) (r:R) (X:Gst) (ms:St),sdf P gl ct n pl c st K=some r->StR (b0,none) X st ms->ms.dl=[]->RH X->RGl P gl X ->
  ∃ d e st' Y me ms' dl,K d e st'=some r/\Stp X Y/\StR (b0,none) Y st' ms'/\ms'.dl=[]/\ExR Y e me/\DdR Y d dl/\Ev fun m=>jO P hk m c ms=some (me,za6 ms' dl):=by
 have base:∀ (c:Code) (pl:Pl),xx P gl hk pl c->zca c=true->∀ (st:SS) (K:Option SDd->SX->SS->Option R) (r:R) (X:Gst) (ms:St),zap P gl ct n pl c st (fun e st'=>K none e st')=some r->StR (b0,none) X st ms->ms.dl=[]->RH X->RGl P gl X ->
   ∃ d e st' Y me ms' dl,K d e st'=some r/\Stp X Y/\StR (b0,none) Y st' ms'/\ms'.dl=[]/\ExR Y e me/\DdR Y d dl/\Ev fun m=>jO P hk m c ms=some (me,za6 ms' dl):=by
  intro c pl hpl hn st K r X ms h hst h0 hr hg
  obtain⟨e,st',Y,me,ms',h1,S1,hs1,he1,ev1⟩:=(zcB hct n).1 pl c hpl (b0,none) _ _ _ _ X ms h hst hr hg
  exact⟨none,e,st',Y,me,ms',[],h1,S1,hs1,zk0 hs1 h0 hn ev1,he1,rfl,ev1.mono fun m p=>by rw[p];simp [za6]⟩
 intro c
 induction c with
 |seq a b iha ihb=>
  intro pl hpl hn st K r X ms h hst h0 hr hg
  obtain⟨ha,hb⟩:=hpl.l2
  simp only[zca,yJ] at hn
  simp only[sdf] at h
  obtain⟨d,e,st',Y,me,ms',dl,h1,S1,hs1,d1,he1,hd1,ev1⟩:=iha _ ha hn.1 st _ r X ms h hst h0 hr hg
  cases e with
  |normal=>
   cases me<;>first|cases he1|skip
   cases d with
   |none=>
    cases(show dl=[] from hd1)
    obtain⟨d2,e2,st2,Z,me2,ms2,dl2,h2,S2,hs2,d3,he2,hd2,ev2⟩:=ihb _ hb hn.2 st' K r Y ms' h1 hs1 d1 S1.hr (hg.le S1.le)
    exact⟨d2,e2,st2,Z,me2,ms2,dl2,h2,S1.trans S2,hs2,d3,he2,hd2,Ev.succ ((ev1.and ev2).mono fun m ⟨p,q⟩=>by
     have e0:za6 ms' []=ms':=by simp [za6]
     rw[e0] at p
     simp only[jO,qB,p,q])⟩
   |some d=>
    obtain⟨e2,st2,Z,me2,ms2,h2,S2,hs2,he2,ev2⟩:=(zcB hct n).1 pl.r b hb (b0,none) _ _ _ _ Y ms' h1 hs1 S1.hr (hg.le S1.le)
    exact⟨some d,e2,st2,Z,me2,ms2,dl,h2,S1.trans S2,hs2,zk0 hs2 d1 hn.2 ev2,he2,hd1.le S2.le,Ev.succ ((ev1.and ev2).mono fun m ⟨p,q⟩=>by simp only[jO,qB,p,zr6 m b ms' me2 ms2 q dl])⟩
  |_=>
   have hme:=he1.ne (by simp)
   refine⟨d,_,st',Y,me,ms',dl,h1,S1,hs1,d1,he1,hd1,Ev.succ (ev1.mono fun m p=>?_)⟩
   simp only[jO,qB,p]
   cases me<;>first|rfl|exact absurd rfl hme
 |region id ops b=>
  cases b with
  |true=>
   intro pl hpl hn st K r X ms h hst h0 hr hg
   exact base _ pl hpl hn st K r X ms h hst h0 hr hg
  |false=>
   intro pl hpl hn st K r X ms h hst h0 hr hg
   have hrnd:ms.rnd=none:=hst.dk.rnd
   simp only[sdf] at h
   split at h
   ·rename_i l o hdo
    obtain⟨hops,hgd,c,hop⟩:=zlH hdo
    obtain⟨e,st1,Y,me,ms1,h1,S1,hs1,he1,ev1⟩:=(zcB hct n).2.1 pl id ops 0 l hpl (b0,none) _ _ _ _ X ms h hst hr hg
    rw[hrnd,h0] at ev1
    have hd0:ms1.dl=[]:=by
     obtain⟨n1,ev1⟩:=ev1
     have q:zji none (zdB P (jU P hk (jO P hk n1)) ops none l ms.env ms.h [])=some (me,ms1):=ev1 n1 (yw _)
     cases hmo:zdB P (jU P hk (jO P hk n1)) ops none l ms.env ms.h [] with
     |none=>rw[hmo] at q;cases q
     |some r1=>
      rw[hmo] at q
      have hmk:=zeo hmo
      have e1:ms1.dl=zxM r1:=by cases r1<;>(cases q;rfl)
      cases hd:ms1.dl with
      |nil=>rfl
      |cons d tl=>
       have hin:d ∈ ms1.dl:=by rw[hd];exact ve
       obtain⟨m,e2,_⟩:=hs1.dk.dl d hin
       rcases hmk d (e1 ▸ hin) with q|⟨f,a,c,q⟩
       ·cases q
       ·rw[e2] at q;cases q
    have split1:∀ m,jO P hk (m+1) (.region id ops false) ms=zji none (match zdB P (jU P hk (jO P hk m)) ops none l ms.env ms.h [] with
      |some (.ok env' h' mk')=>zdB P (jU P hk (jO P hk m)) ops none [o] env' h' mk'
      |r=>r):=by
     intro m
     simp only[jO,qB,hrnd,h0]
     rw[hops,ze6]
    cases e with
    |normal=>
     cases me<;>first|cases he1|skip
     simp only at h1
     split at h1
     ·rename_i f args cap hsop
      split at h1
      ·rename_i env he
       have hhit:Hit (sop P gl (sev gl st1.env) Y.sh o.op) (.dfr f args cap):=by rw[hs1.sh,hsop];exact .inl ⟨rfl,rfl⟩
       obtain⟨rs,hm,hrs⟩:=zgd S1.hr (hg.le S1.le) (EvR.of hs1.env (hg.le S1.le)) hhit
       cases rs with
       |dfr f' a' c'=>
        obtain⟨rfl,ha,hc⟩:=hrs
        obtain⟨me',q1,q2⟩:=zcZ (x:=.undef) hs1.env (v:=.tup []) ⟨[],rfl,rfl⟩ he
        refine⟨some (f,args,cap),.normal,⟨env,st1.h⟩,Y,.normal,⟨me',ms1.h,[],none⟩,[.call f a' c'],h1,S1,⟨q2,hs1.sh,hs1.h,by have:=hs1.dk;rw[hd0,hs1.dk.rnd] at this;exact this⟩,rfl,trivial,⟨a',c',rfl,ha,hc⟩,Ev.succ (ev1.mono fun m p=>?_)⟩
        rw[split1]
        cases hmo:zdB P (jU P hk (jO P hk m)) ops none l ms.env ms.h [] with
        |none=>rw[hmo] at p;cases p
        |some q=>
         rw[hmo] at p
         cases q with
         |pan=>cases p
         |ok env1 h1' mk1=>
          cases p
          have hmk:mk1=[]:=hd0
          subst hmk
          rw[hs1.h] at hm
          simp only[zdB,want,hgd]
          have hpo:ze9 o.op=none:=by rw[hop];rfl
          simp only[zby,hpo,hm,zcS,q1,zjY,zji]
          rfl
       |_=>cases hrs
      ·cases h1
     ·cases h1
    |_=>
     have hme:=he1.ne (by simp)
     refine⟨none,_,st1,Y,me,ms1,[],h1,S1,hs1,hd0,he1,rfl,Ev.succ (ev1.mono fun m p=>?_)⟩
     rw[split1]
     cases hmo:zdB P (jU P hk (jO P hk m)) ops none l ms.env ms.h [] with
     |none=>rw[hmo] at p;cases p
     |some q=>
      rw[hmo] at p
      cases q with
      |ok=>cases p;exact absurd rfl hme
      |pan=>simp only;rw[p];simp [za6]
   ·exact base _ pl hpl hn st K r X ms h hst h0 hr hg
 |_=>
  intro pl hpl hn st K r X ms h hst h0 hr hg
  exact base _ pl hpl hn st K r X ms h hst h0 hr hg
theorem zop(hct:zm9 P gl ct hk){n:Nat}{pl:Pl}{f:FuncId}(hpl:∀ fn b,P.funcs[f]?=some fn->fn.body=some b->xx P gl hk pl b):zhI P gl hk f fun R args h κ=>zs4 P gl ct (R:=R) n pl f args h κ:=by
 intro R args κ r X margs h hargs hr hg
 simp only[zs4] at h
 split at h
 ·cases h
 ·rename_i hcf
  split at h
  ·rename_i fn hf
   split at h
   ·rename_i c hb
    split at h
    ·rename_i hle
     simp only[yJ] at hle
     obtain⟨hle,hnr⟩:=hle
     have hle:=yO hle
     have hhk:hk f=none:=by
      cases hq:hk f with
      |none=>rfl
      |some g=>have:=hct.zyU f g hq hcf;rw[hf] at this;simp [hb] at this
     have hl:=hargs.length
     obtain⟨d,e,st1,Y,me,ms1,dl,h1,S1,hs1,hd0,he1,hd1,ev1⟩:=zs0 (b0:=X.h.length) hct n c pl (hpl fn c hf hb) hnr _ _ r X ⟨Arr.of (margs++yx (fn.ntmps-margs.length) AV.undef),X.h,[],none⟩ h ⟨zsl hargs _,rfl,rfl,Dk.none⟩ rfl hr hg
     split at h1
     ·cases h1
     ·rename_i pn hpn
      obtain⟨mpn,hp1,hm⟩:∃ mpn,PnR Y pn mpn/\∀ m,jO P hk m c ⟨Arr.of (margs++yx (fn.ntmps-margs.length) AV.undef),X.h,[],none⟩=some (me,za6 ms1 dl)->jU P hk (jO P hk m) (.f f) margs X.h=zna P fn ms1.env (mleave (zb4 P (jO P hk m)) dl ms1.h mpn):=by
       have hdl:ms1.dl++dl=dl:=by rw[hd0];rfl
       cases e with
       |normal=>
        cases me<;>first|cases he1|skip
        cases hpn
        refine⟨.no,trivial,fun m p=>?_⟩
        simp only[jU,hhk,zfQ,hf,mstart,hb]
        rw[if_pos (by rw[hl];exact hle),p]
        simp only[za6,hdl]
       |ret=>
        cases me<;>first|cases he1|skip
        cases hpn
        refine⟨.no,trivial,fun m p=>?_⟩
        simp only[jU,hhk,zfQ,hf,mstart,hb]
        rw[if_pos (by rw[hl];exact hle),p]
        simp only[za6,hdl]
       |exit id=>cases hpn
       |panic v=>
        cases me<;>first|cases he1|skip
        cases hpn
        refine⟨.up _,he1,fun m p=>?_⟩
        simp only[jU,hhk,zfQ,hf,mstart,hb]
        rw[if_pos (by rw[hl];exact hle),p]
        simp only[za6,hdl]
      have fin:∀ (Z:Gst) (h2:SH) (pn2:SPn) (mpn2:Pn) (mh:zg),Stp Y Z->Z.sh=h2->Z.h=mh->PnR Z pn2 mpn2->zzA P gl fn st1.env κ h2 pn2=some r->∃ q mq,κ q=some r/\CRR Z q mq/\zna P fn ms1.env (some (mh,mpn2))=some mq:=by
       intro Z h2 pn2 mpn2 mh S2 e1 e2 hp2 h3
       unfold zzA at h3
       cases pn2 with
       |no=>
        cases mpn2<;>first|cases hp2|skip
        simp only at h3
        split at h3
        ·rename_i vs hvs
         rw[<- e1] at hvs
         obtain⟨xs,q1,q2⟩:=zgP S2.hr (hs1.env.le S2.le) (hg.le (S1.trans S2).le) hvs
         rw[e2] at q1
         exact⟨_,.ret (zsf xs) mh,h3,⟨e1,e2,zjO q2⟩,by simp only[zna,q1]⟩
        ·cases h3
       |up v=>
        cases mpn2<;>first|cases hp2|skip
        exact⟨_,.pan _ mh,h3,⟨e1,e2,hp2⟩,rfl⟩
       |re v=>cases h3
      split at h1
      ·cases(show dl=[] from hd1)
       obtain⟨q,mq,k1,k2,k3⟩:=fin Y st1.h pn mpn ms1.h (.refl S1.hr) hs1.sh hs1.h hp1 h1
       exact⟨q,Y,mq,k1,S1,k2,ev1.mono fun m p=>by rw[hm m p];exact k3⟩
      ·rename_i f' a' c'
       obtain⟨ma,mc,rfl,hA,hC⟩:=hd1
       unfold zv7 at h1
       split at h1
       ·rename_i fn' hf'
        split at h1
        ·rename_i c2 hb'
         split at h1
         ·rename_i hle'
          simp only[yJ] at hle'
          obtain⟨hle',hnr'⟩:=hle'
          have hle':=yO hle'
          have hAC:=hA.append hC
          have hl':=hAC.length
          obtain⟨e3,st3,pn3,Z,me3,ms3,mpn3,h3,S3,hs3,hd3,he3,hp3,ev3⟩:=zsZ (k0:=(Y.h.length,none)) hct n c2 .auto trivial hnr' _ _ _ r Y ⟨Arr.of ((ma++mc)++yx (fn'.ntmps-(ma++mc).length) AV.undef),ms1.h,[],none⟩ mpn h1 ⟨zsl hAC _,hs1.sh,hs1.h,Dk.none⟩ rfl S1.hr (hg.le S1.le) hp1
          have leave:∀ (hok:me3=.normal\/me3=.ret) {vs:List SV},ztK P gl st3.env st3.h fn'.results.toList=some vs->zzA P gl fn st1.env κ st3.h pn3.settle=some r->∃ q Y mq,κ q=some r/\Stp X Y/\CRR Y q mq/\Ev fun n=>jU P hk (jO P hk n) (.f f) margs X.h=some mq:=by
           intro hok vs hvs h4
           rw[<- hs3.sh] at hvs
           obtain⟨xs,q1,q2⟩:=zgP S3.hr hs3.env (hg.le (S1.trans S3).le) hvs
           rw[hs3.h] at q1
           obtain⟨q,mq,k1,k2,k3⟩:=fin Z st3.h pn3.settle mpn3.settle ms3.h S3 hs3.sh hs3.h hp3.settle h4
           refine⟨q,Z,mq,k1,S1.trans S3,k2,(ev1.and ev3).mono fun m ⟨p1,p3⟩=>?_⟩
           rw[hm m p1,<- k3]
           congr 1
           simp only[mleave,zb4,hf',hb']
           rw[if_pos (by rw[hl'];exact hle'),p3]
           rcases hok with rfl|rfl<;>simp only[hd3,q1]
          cases e3 with
          |normal=>
           cases me3<;>first|cases he3|skip
           simp only at h3
           split at h3
           ·rename_i vs hvs;exact leave (.inl rfl) hvs h3
           ·cases h3
          |ret=>
           cases me3<;>first|cases he3|skip
           simp only at h3
           split at h3
           ·rename_i vs hvs;exact leave (.inr rfl) hvs h3
           ·cases h3
          |exit id=>cases h3
          |panic v=>cases h3
         ·cases h1
        ·cases h1
       ·cases h1
    ·cases h
   ·cases h
  ·cases h
theorem zpO(hct:zm9 P gl ct hk){n:Nat}{pl:Pl}{f:FuncId}{us rs:List U}{F:El (zaE us)->Option (El (zaE rs))}(hpl:∀ fn b,P.funcs[f]?=some fn->fn.body=some b->xx P gl hk pl b)
  (hF:∀ x,zs4 P gl ct n pl f (jx us x) [] (zdp rs)=F x):zhI P gl hk f (zP us rs F):=zjv (zop hct hpl) fun Y x margs h=>⟨_,h,hF x⟩
theorem zCs{T:FT}{al:List FuncId}(hh:zpH P hk al)(ha:(al.all fun f=>zo0 T f)=true)(hT:zi1 P gl hk T){n:Nat}{f:FuncId}{us rs:List U}{F:El (zaE us)->Option (El (zaE rs))}(pl:Pl){fn:Func}(hf:P.funcs[f]?=some fn){ls:List (Code×LF)}(h:(match fn.body with|some b=>qm P pl b|none=>none)=some ls)(hs:zc4 P gl hk ls)
  (hF:∀ x,zs4 P gl (zfj T) n pl f (jx us x) [] (zdp rs)=F x):zi1 P gl hk ((f,zP us rs F)::T):=⟨zpO (ztX hh ha hT) (zfa hf h hs) hF,hT⟩
theorem zBX{T:FT}{al:List FuncId}(hh:zpH P hk al)(hT:zi1 P gl hk T){f:FuncId}{us rs:List U}{F:El (zaE us)->Option (El (zaE rs))}(pl:Pl){fn:Func}(hf:P.funcs[f]?=some fn){ls:List (Code×LF)}(hs:zc4 P gl hk ls)
  (ha:(al.all fun f=>zo0 T f)=true:=by rfl) (n:Nat:=1500) (h:(match fn.body with|some b=>qm P pl b|none=>none)=some ls:=by kernel_rfl)
  (hF:∀ x,zs4 P gl (zfj T) n pl f (jx us x) [] (zdp rs)=F x:=by intro x;kernel_rfl):zi1 P gl hk ((f,zP us rs F)::T):=zCs hh ha hT pl hf h hs hF
end
end Go.Sx
namespace Go.Proofs.Model
open Go Go.Gx Go.Mx Go.Sx
abbrev LB:=List UInt8
@[reducible] def uS1:U:=(.pair (.int .i64) (.pair .str (.int .i64)))
@[reducible] def uS2:U:=(.pair .str (.pair (.int .i64) (.pair .str (.pair (.sl (.pair (.int .u32) (.int .u32))) (.pair (.int .i64) (.pair (.int .i64) (.pair .bool (.pair .u8 (.sl .u8)))))))))
def ztL:LB:=[0,1,2,2,3,3,3,3,4,4,4,4,4,4,4,4,5,5,5,5,5,5,5,5,5,5,5,5,5,5,5,5,6,6,6,6,6,6,6,6,6,6,6,6,6,6,6,6,6,6,6,6,6,6,6,6,6,6,6,6,6,6,6,6,7,7,7,7,7,7,7,7,7,7,7,7,7,7,7,7,7,7,7,7,7,7,7,7,7,7,7,7,7,7,7,7,7,7,7,7,7,7,7,7,7,7,7,7,7,7,7,7,7,7,7,7,7,7,7,7,7,7,7,7,7,7,7,7,8,8,8,8,8,8,8,8,8,8,8,8,8,8,8,8,8,8,8,8,8,8,8,8,8,8,8,8,8,8,8,8,8,8,8,8,8,8,8,8,8,8,8,8,8,8,8,8,8,8,8,8,8,8,8,8,8,8,8,8,8,8,8,8,8,8,8,8,8,8,8,8,8,8,8,8,8,8,8,8,8,8,8,8,8,8,8,8,8,8,8,8,8,8,8,8,8,8,8,8,8,8,8,8,8,8,8,8,8,8,8,8,8,8,8,8,8,8,8,8,8,8,8,8,8,8,8,8]
def zdJ:LB:=[48,48,48,49,48,50,48,51,48,52,48,53,48,54,48,55,48,56,48,57,49,48,49,49,49,50,49,51,49,52,49,53,49,54,49,55,49,56,49,57,50,48,50,49,50,50,50,51,50,52,50,53,50,54,50,55,50,56,50,57,51,48,51,49,51,50,51,51,51,52,51,53,51,54,51,55,51,56,51,57,52,48,52,49,52,50,52,51,52,52,52,53,52,54,52,55,52,56,52,57,53,48,53,49,53,50,53,51,53,52,53,53,53,54,53,55,53,56,53,57,54,48,54,49,54,50,54,51,54,52,54,53,54,54,54,55,54,56,54,57,55,48,55,49,55,50,55,51,55,52,55,53,55,54,55,55,55,56,55,57,56,48,56,49,56,50,56,51,56,52,56,53,56,54,56,55,56,56,56,57,57,48,57,49,57,50,57,51,57,52,57,53,57,54,57,55,57,56,57,57]
def jG(N:Nat)(p0:LB)(p1:UInt8):Option (Int×Unit):=
 (some ((ke p1 p0 0),()))
def zbm(N:Nat)(p0:UInt8):Option (Bool×Unit):=
 (cond (decide (32<p0)) (cond (decide (p0<=126)) (cond (decide (((ym (zu1 p0 6):Nat):Int)=0)) (cond (decide (0<=((ym (p0 &&& 63):Nat):Int))) (some ((!((zbu .and .u64 (yy 7851200217088 (2 ^ (min (yc ((ym (p0 &&& 63):Nat):Int)) (yj .u64)))) 1)==1)),())) none) (cond (decide (((ym (zu1 p0 6):Nat):Int)=1)) (cond (decide (0<=((ym (p0 &&& 63):Nat):Int))) (some ((!((zbu .and .u64 (yy 576460753108729856 (2 ^ (min (yc ((ym (p0 &&& 63):Nat):Int)) (yj .u64)))) 1)==1)),())) none) (cond (decide (((ym (zu1 p0 6):Nat):Int)=2)) (cond (decide (0<=((ym (p0 &&& 63):Nat):Int))) (some ((!((zbu .and .u64 (yy 0 (2 ^ (min (yc ((ym (p0 &&& 63):Nat):Int)) (yj .u64)))) 1)==1)),())) none) (cond (decide (((ym (zu1 p0 6):Nat):Int)=3)) (cond (decide (0<=((ym (p0 &&& 63):Nat):Int))) (some ((!((zbu .and .u64 (yy 0 (2 ^ (min (yc ((ym (p0 &&& 63):Nat):Int)) (yj .u64)))) 1)==1)),())) none) none)))) (some (false,()))) (some (false,())))
def zbB(N:Nat)(p0:UInt8):Option (Bool×Unit):=
 (cond (p0==93) (some (true,())) (cond (p0 != 43) ((zbm N p0).bind fun y1=>(some (y1.1,()))) (some (false,()))))
def zcH(N:Nat){R:Type}(x8:LB)(x9:Int)(x10:Int)(rec_:LB->Int->Int->Option R)(o0:Unit->Option R)(o1:Unit->Option R):Option R:=
 (cond (decide (x10<x9)) (cond (inb x10 (yb x8)) ((zbB N (nth .u8 x8 (yc x10))).bind fun y13=>(cond (!y13.1) (o0 ()) (rec_ x8 x9 (ya .i64 (x10+1))))) none) (o1 ()))
def je(N:Nat):Nat->LB->Int->Int->Option ((Unit) ⊕ (Unit))
 |0,_,_,_=>none
 |m+1,x8,x9,x10=>zcH N x8 x9 x10 (je N m) (fun _=>some (Sum.inl ())) (fun _=>some (Sum.inr ()))
def zbW(N:Nat)(p0:LB):Option (LB×Int×Bool×Unit):=
 ((jG N p0 32).bind fun y1=>(cond (decide (y1.1<1)) (some ([],0,false,())) (cond ((wo 0 y1.1 (yb p0))&&true) (cond ((slice p0 0 (yc y1.1)) != []) ((je N N (slice p0 0 (yc y1.1)) (((yb (slice p0 0 (yc y1.1))):Nat):Int) 0).bind fun o18=>(ze o18 (fun a19=>(some ([],0,false,()))) (fun b20=>(cond ((wo 0 y1.1 (yb p0))&&true) (some ((slice p0 0 (yc y1.1)),(ya .i64 (y1.1+1)),true,())) none)))) (some ([],0,false,()))) none)))
def kI(N:Nat)(p0:UInt8):Option (Bool×Unit):=
 (cond (p0 != 0) (cond (decide (p0<128)) (cond (p0 != 13) (some ((p0 != 10),())) (some (false,()))) (some (false,()))) (some (false,())))
def xS(N:Nat){R:Type}(x18:LB)(x19:Int)(x20:LB)(rec_:LB->Int->LB->Option R)(o0:(Bool)->LB->Int->LB->Option R):Option R:=
 (cond (decide (x19<0)) (o0 false x18 x19 x20) (cond (decide (((yb x18:Nat):Int)<=x19)) (o0 false x18 x19 x20) (cond (inb (ya .i64 ((ya .i64 (x19+1))-1)) (yb x18)) (cond ((nth .u8 x18 (yc (ya .i64 ((ya .i64 (x19+1))-1))))==34) (o0 true x18 (ya .i64 (x19+1)) x20) (cond ((nth .u8 x18 (yc (ya .i64 ((ya .i64 (x19+1))-1))))==92) (cond (decide ((ya .i64 (x19+1))<0)) (o0 false x18 (ya .i64 (x19+1)) x20) (cond (decide (((yb x18:Nat):Int)<=(ya .i64 (x19+1)))) (o0 false x18 (ya .i64 (x19+1)) x20) (cond (inb (ya .i64 ((ya .i64 ((ya .i64 (x19+1))+1))-1)) (yb x18)) (cond ((nth .u8 x18 (yc (ya .i64 ((ya .i64 ((ya .i64 (x19+1))+1))-1)))) != 34) (cond ((nth .u8 x18 (yc (ya .i64 ((ya .i64 ((ya .i64 (x19+1))+1))-1)))) != 92) (o0 false x18 (ya .i64 ((ya .i64 (x19+1))+1)) x20) ((kI N (nth .u8 x18 (yc (ya .i64 ((ya .i64 ((ya .i64 (x19+1))+1))-1))))).bind fun y25=>(cond (!y25.1) (o0 false x18 (ya .i64 ((ya .i64 (x19+1))+1)) x20) (cond (yk ((yb x20)+1) zG) (rec_ x18 (ya .i64 ((ya .i64 (x19+1))+1)) (x20++([(nth .u8 x18 (yc (ya .i64 ((ya .i64 ((ya .i64 (x19+1))+1))-1))))]:LB))) none)))) ((kI N (nth .u8 x18 (yc (ya .i64 ((ya .i64 ((ya .i64 (x19+1))+1))-1))))).bind fun y26=>(cond (!y26.1) (o0 false x18 (ya .i64 ((ya .i64 (x19+1))+1)) x20) (cond (yk ((yb x20)+1) zG) (rec_ x18 (ya .i64 ((ya .i64 (x19+1))+1)) (x20++([(nth .u8 x18 (yc (ya .i64 ((ya .i64 ((ya .i64 (x19+1))+1))-1))))]:LB))) none)))) none))) ((kI N (nth .u8 x18 (yc (ya .i64 ((ya .i64 (x19+1))-1))))).bind fun y27=>(cond (!y27.1) (o0 false x18 (ya .i64 (x19+1)) x20) (cond (yk ((yb x20)+1) zG) (rec_ x18 (ya .i64 (x19+1)) (x20++([(nth .u8 x18 (yc (ya .i64 ((ya .i64 (x19+1))-1))))]:LB))) none))))) none)))
def zN(N:Nat):Nat->LB->Int->LB->Option ((Bool)×LB×Int×LB)
 |0,_,_,_=>none
 |m+1,x18,x19,x20=>xS N x18 x19 x20 (zN N m) (fun v0 v1 v2 v3=>some (v0,v1,v2,v3))
def j5(N:Nat)(p0:LB)(p1:Int):Option (LB×Int×Bool×Unit):=
 (cond (decide (p1<0)) (some ([],0,false,())) (cond (decide (((yb p0:Nat):Int)<=p1)) (some ([],0,false,())) (cond (inb (ya .i64 ((ya .i64 (p1+1))-1)) (yb p0)) (cond (!((nth .u8 p0 (yc (ya .i64 ((ya .i64 (p1+1))-1))))==34)) (some ([],0,false,())) ((zN N N p0 (ya .i64 (p1+1)) []).bind fun o28=>(cond (!o28.1) (some ([],0,false,())) (some (o28.2.2.2,o28.2.2.1,true,()))))) none)))
def kR(N:Nat)(p0:Int):Option (LB×Unit):=
 (cond (decide (p0<10)) (cond (wo p0 (ya .i64 (p0+1)) 36) (some ((slice [48,49,50,51,52,53,54,55,56,57,97,98,99,100,101,102,103,104,105,106,107,108,109,110,111,112,113,114,115,116,117,118,119,120,121,122] (yc p0) (yc (ya .i64 (p0+1)))),())) none) (cond (wo (ya .i64 (p0*2)) (ya .i64 ((ya .i64 (p0*2))+2)) 200) (some ((slice [48,48,48,49,48,50,48,51,48,52,48,53,48,54,48,55,48,56,48,57,49,48,49,49,49,50,49,51,49,52,49,53,49,54,49,55,49,56,49,57,50,48,50,49,50,50,50,51,50,52,50,53,50,54,50,55,50,56,50,57,51,48,51,49,51,50,51,51,51,52,51,53,51,54,51,55,51,56,51,57,52,48,52,49,52,50,52,51,52,52,52,53,52,54,52,55,52,56,52,57,53,48,53,49,53,50,53,51,53,52,53,53,53,54,53,55,53,56,53,57,54,48,54,49,54,50,54,51,54,52,54,53,54,54,54,55,54,56,54,57,55,48,55,49,55,50,55,51,55,52,55,53,55,54,55,55,55,56,55,57,56,48,56,49,56,50,56,51,56,52,56,53,56,54,56,55,56,56,56,57,57,48,57,49,57,50,57,51,57,52,57,53,57,54,57,55,57,56,57,57] (yc (ya .i64 (p0*2))) (yc (ya .i64 ((ya .i64 (p0*2))+2)))),())) none))
def wB(N:Nat)(p0:Int):Option (Int×Unit):=
 (cond (decide (4294967296<=p0)) (cond (decide (65536<=(yy p0 (2 ^ (min (yc 32) (yj .u64)))))) (cond (decide (256<=(yy (yy p0 (2 ^ (min (yc 32) (yj .u64)))) (2 ^ (min (yc 16) (yj .u64)))))) (cond (inb ((ym (zdC (yy (yy (yy p0 (2 ^ (min (yc 32) (yj .u64)))) (2 ^ (min (yc 16) (yj .u64)))) (2 ^ (min (yc 8) (yj .u64))))):Nat):Int) 256) (some ((ya .i64 (56+(ya .i64 ((ym (nth .u8 ztL (yc ((ym (zdC (yy (yy (yy p0 (2 ^ (min (yc 32) (yj .u64)))) (2 ^ (min (yc 16) (yj .u64)))) (2 ^ (min (yc 8) (yj .u64))))):Nat):Int))):Nat):Int)))),())) none) (cond (inb ((ym (zdC (yy (yy p0 (2 ^ (min (yc 32) (yj .u64)))) (2 ^ (min (yc 16) (yj .u64))))):Nat):Int) 256) (some ((ya .i64 (48+(ya .i64 ((ym (nth .u8 ztL (yc ((ym (zdC (yy (yy p0 (2 ^ (min (yc 32) (yj .u64)))) (2 ^ (min (yc 16) (yj .u64))))):Nat):Int))):Nat):Int)))),())) none)) (cond (decide (256<=(yy p0 (2 ^ (min (yc 32) (yj .u64)))))) (cond (inb ((ym (zdC (yy (yy p0 (2 ^ (min (yc 32) (yj .u64)))) (2 ^ (min (yc 8) (yj .u64))))):Nat):Int) 256) (some ((ya .i64 (40+(ya .i64 ((ym (nth .u8 ztL (yc ((ym (zdC (yy (yy p0 (2 ^ (min (yc 32) (yj .u64)))) (2 ^ (min (yc 8) (yj .u64))))):Nat):Int))):Nat):Int)))),())) none) (cond (inb ((ym (zdC (yy p0 (2 ^ (min (yc 32) (yj .u64))))):Nat):Int) 256) (some ((ya .i64 (32+(ya .i64 ((ym (nth .u8 ztL (yc ((ym (zdC (yy p0 (2 ^ (min (yc 32) (yj .u64))))):Nat):Int))):Nat):Int)))),())) none))) (cond (decide (65536<=p0)) (cond (decide (256<=(yy p0 (2 ^ (min (yc 16) (yj .u64)))))) (cond (inb ((ym (zdC (yy (yy p0 (2 ^ (min (yc 16) (yj .u64)))) (2 ^ (min (yc 8) (yj .u64))))):Nat):Int) 256) (some ((ya .i64 (24+(ya .i64 ((ym (nth .u8 ztL (yc ((ym (zdC (yy (yy p0 (2 ^ (min (yc 16) (yj .u64)))) (2 ^ (min (yc 8) (yj .u64))))):Nat):Int))):Nat):Int)))),())) none) (cond (inb ((ym (zdC (yy p0 (2 ^ (min (yc 16) (yj .u64))))):Nat):Int) 256) (some ((ya .i64 (16+(ya .i64 ((ym (nth .u8 ztL (yc ((ym (zdC (yy p0 (2 ^ (min (yc 16) (yj .u64))))):Nat):Int))):Nat):Int)))),())) none)) (cond (decide (256<=p0)) (cond (inb ((ym (zdC (yy p0 (2 ^ (min (yc 8) (yj .u64))))):Nat):Int) 256) (some ((ya .i64 (8+(ya .i64 ((ym (nth .u8 ztL (yc ((ym (zdC (yy p0 (2 ^ (min (yc 8) (yj .u64))))):Nat):Int))):Nat):Int)))),())) none) (cond (inb ((ym (zdC p0):Nat):Int) 256) (some ((ya .i64 (0+(ya .i64 ((ym (nth .u8 ztL (yc ((ym (zdC p0):Nat):Int))):Nat):Int)))),())) none))))
def ka(N:Nat)(p0:Int):Option (Int×Unit):=
 (some ((yy (ya .i64 (p0*78913)) (2 ^ (min (yc 18) (yj .i64)))),()))
def wZ(N:Nat)(p0:Bool):Option (Int×Unit):=
 (cond p0 (some (1,())) (some (0,())))
def zr(N:Nat)(p0:Int):Option (Int×Unit):=
 ((wB N p0).bind fun y1=>((ka N y1.1).bind fun y2=>(cond ((inb y2.1 20)&&(inb y2.1 20)) ((wZ N (decide ((nth (.int .u64) ([1,10,100,1000,10000,100000,1000000,10000000,100000000,1000000000,10000000000,100000000000,1000000000000,10000000000000,100000000000000,1000000000000000,10000000000000000,100000000000000000,1000000000000000000,10000000000000000000]:List Int) (yc y2.1))<=p0))).bind fun y3=>(some ((ya .i64 (y2.1+y3.1)),()))) none)))
def zE(N:Nat){R:Type}(x3:Nat)(x4:Nat)(x5:Int)(x6:Int)(x7:LB)(rec_:(Nat)->(Nat)->Int->Int->LB->Option R)(o0:(Nat)->(Nat)->Int->Int->LB->Option R):Option R:=
 (cond (decide (8<=x6)) (cond (inb (ya .u32 ((ya .u32 ((yh (yh (ya .u32 (yh x5 100000000)) 10000) 100)*2))+1)) 200) (cond (inb (ya .u32 ((yh (yh (ya .u32 (yh x5 100000000)) 10000) 100)*2)) 200) (cond (inb (ya .i64 (x6-1)) x4) (cond (inb (ya .i64 (x6-2)) x4) (cond (inb (ya .u32 ((ya .u32 ((ya .u32 (yp (yh (ya .u32 (yh x5 100000000)) 10000) 100))*2))+1)) 200) (cond (inb (ya .u32 ((ya .u32 (yp (yh (ya .u32 (yh x5 100000000)) 10000) 100))*2)) 200) (cond (inb (ya .i64 (x6-3)) x4) (cond (inb (ya .i64 (x6-4)) x4) (cond (inb (ya .u32 ((ya .u32 ((yh (ya .u32 (yp (ya .u32 (yh x5 100000000)) 10000)) 100)*2))+1)) 200) (cond (inb (ya .u32 ((yh (ya .u32 (yp (ya .u32 (yh x5 100000000)) 10000)) 100)*2)) 200) (cond (inb (ya .i64 (x6-5)) x4) (cond (inb (ya .i64 (x6-6)) x4) (cond (inb (ya .u32 ((ya .u32 ((ya .u32 (yp (ya .u32 (yp (ya .u32 (yh x5 100000000)) 10000)) 100))*2))+1)) 200) (cond (inb (ya .u32 ((ya .u32 (yp (ya .u32 (yp (ya .u32 (yh x5 100000000)) 10000)) 100))*2)) 200) (cond (inb (ya .i64 (x6-7)) x4) (cond (inb (ya .i64 (x6-8)) x4) (rec_ x3 x4 (ya .u64 (yp x5 100000000)) (ya .i64 (x6-8)) (yr (yr (yr (yr (yr (yr (yr (yr x7 (x3+(yc (ya .i64 (x6-1)))) (nth .u8 zdJ (yc (ya .u32 ((ya .u32 ((yh (yh (ya .u32 (yh x5 100000000)) 10000) 100)*2))+1))))) (x3+(yc (ya .i64 (x6-2)))) (nth .u8 zdJ (yc (ya .u32 ((yh (yh (ya .u32 (yh x5 100000000)) 10000) 100)*2))))) (x3+(yc (ya .i64 (x6-3)))) (nth .u8 zdJ (yc (ya .u32 ((ya .u32 ((ya .u32 (yp (yh (ya .u32 (yh x5 100000000)) 10000) 100))*2))+1))))) (x3+(yc (ya .i64 (x6-4)))) (nth .u8 zdJ (yc (ya .u32 ((ya .u32 (yp (yh (ya .u32 (yh x5 100000000)) 10000) 100))*2))))) (x3+(yc (ya .i64 (x6-5)))) (nth .u8 zdJ (yc (ya .u32 ((ya .u32 ((yh (ya .u32 (yp (ya .u32 (yh x5 100000000)) 10000)) 100)*2))+1))))) (x3+(yc (ya .i64 (x6-6)))) (nth .u8 zdJ (yc (ya .u32 ((yh (ya .u32 (yp (ya .u32 (yh x5 100000000)) 10000)) 100)*2))))) (x3+(yc (ya .i64 (x6-7)))) (nth .u8 zdJ (yc (ya .u32 ((ya .u32 ((ya .u32 (yp (ya .u32 (yp (ya .u32 (yh x5 100000000)) 10000)) 100))*2))+1))))) (x3+(yc (ya .i64 (x6-8)))) (nth .u8 zdJ (yc (ya .u32 ((ya .u32 (yp (ya .u32 (yp (ya .u32 (yh x5 100000000)) 10000)) 100))*2)))))) none) none) none) none) none) none) none) none) none) none) none) none) none) none) none) none) (o0 x3 x4 x5 x6 x7))
def zd(N:Nat):Nat->(Nat)->(Nat)->Int->Int->LB->Option ((Nat)×(Nat)×Int×Int×LB)
 |0,_,_,_,_,_=>none
 |m+1,x3,x4,x5,x6,x7=>zE N x3 x4 x5 x6 x7 (zd N m) (fun v0 v1 v2 v3 v4=>some (v0,v1,v2,v3,v4))
def zl(N:Nat)(p0:Int):Option (LB×Unit):=
 (cond (decide ((ya .u64 p0)<100)) ((kR N (ya .i64 (ya .u64 p0))).bind fun y1=>(some (y1.1,()))) ((zr N (ya .u64 p0)).bind fun y2=>(cond (wo 0 y2.1 24) ((zd N N 0 ((yc y2.1)-0) (ya .u64 p0) ((((yc y2.1)-0):Nat):Int) [0,0,0,0,0,0,0,0,0,0,0,0,0,0,0,0,0,0,0,0,0,0,0,0]).bind fun o9=>(cond (decide (4<=o9.2.2.2.1)) (cond (inb (ya .u32 ((ya .u32 ((yh (yh (ya .u32 o9.2.2.1) 10000) 100)*2))+1)) 200) (cond (inb (ya .u32 ((yh (yh (ya .u32 o9.2.2.1) 10000) 100)*2)) 200) (cond (inb (ya .i64 (o9.2.2.2.1-1)) o9.2.1) (cond (inb (ya .i64 (o9.2.2.2.1-2)) o9.2.1) (cond (inb (ya .u32 ((ya .u32 ((ya .u32 (yp (yh (ya .u32 o9.2.2.1) 10000) 100))*2))+1)) 200) (cond (inb (ya .u32 ((ya .u32 (yp (yh (ya .u32 o9.2.2.1) 10000) 100))*2)) 200) (cond (inb (ya .i64 (o9.2.2.2.1-3)) o9.2.1) (cond (inb (ya .i64 (o9.2.2.2.1-4)) o9.2.1) (cond (decide (2<=(ya .i64 (o9.2.2.2.1-4)))) (cond (inb (ya .u32 ((ya .u32 ((yh (ya .u32 (yp (ya .u32 o9.2.2.1) 10000)) 100)*2))+1)) 200) (cond (inb (ya .u32 ((yh (ya .u32 (yp (ya .u32 o9.2.2.1) 10000)) 100)*2)) 200) (cond (inb (ya .i64 ((ya .i64 (o9.2.2.2.1-4))-1)) o9.2.1) (cond (inb (ya .i64 ((ya .i64 (o9.2.2.2.1-4))-2)) o9.2.1) (cond (decide (0<(ya .i64 ((ya .i64 (o9.2.2.2.1-4))-2)))) (cond (inb 0 o9.2.1) (cond (wo 0 y2.1 24) (some ((slice (yr (yr (yr (yr (yr (yr (yr o9.2.2.2.2 (o9.1+(yc (ya .i64 (o9.2.2.2.1-1)))) (nth .u8 zdJ (yc (ya .u32 ((ya .u32 ((yh (yh (ya .u32 o9.2.2.1) 10000) 100)*2))+1))))) (o9.1+(yc (ya .i64 (o9.2.2.2.1-2)))) (nth .u8 zdJ (yc (ya .u32 ((yh (yh (ya .u32 o9.2.2.1) 10000) 100)*2))))) (o9.1+(yc (ya .i64 (o9.2.2.2.1-3)))) (nth .u8 zdJ (yc (ya .u32 ((ya .u32 ((ya .u32 (yp (yh (ya .u32 o9.2.2.1) 10000) 100))*2))+1))))) (o9.1+(yc (ya .i64 (o9.2.2.2.1-4)))) (nth .u8 zdJ (yc (ya .u32 ((ya .u32 (yp (yh (ya .u32 o9.2.2.1) 10000) 100))*2))))) (o9.1+(yc (ya .i64 ((ya .i64 (o9.2.2.2.1-4))-1)))) (nth .u8 zdJ (yc (ya .u32 ((ya .u32 ((yh (ya .u32 (yp (ya .u32 o9.2.2.1) 10000)) 100)*2))+1))))) (o9.1+(yc (ya .i64 ((ya .i64 (o9.2.2.2.1-4))-2)))) (nth .u8 zdJ (yc (ya .u32 ((yh (ya .u32 (yp (ya .u32 o9.2.2.1) 10000)) 100)*2))))) (o9.1+0) (zdC (ya .u32 (48+(ya .u32 (yp (ya .u32 (yp (ya .u32 o9.2.2.1) 10000)) 100)))))) 0 (0+((yc y2.1)-0))),())) none) none) (cond (wo 0 y2.1 24) (some ((slice (yr (yr (yr (yr (yr (yr o9.2.2.2.2 (o9.1+(yc (ya .i64 (o9.2.2.2.1-1)))) (nth .u8 zdJ (yc (ya .u32 ((ya .u32 ((yh (yh (ya .u32 o9.2.2.1) 10000) 100)*2))+1))))) (o9.1+(yc (ya .i64 (o9.2.2.2.1-2)))) (nth .u8 zdJ (yc (ya .u32 ((yh (yh (ya .u32 o9.2.2.1) 10000) 100)*2))))) (o9.1+(yc (ya .i64 (o9.2.2.2.1-3)))) (nth .u8 zdJ (yc (ya .u32 ((ya .u32 ((ya .u32 (yp (yh (ya .u32 o9.2.2.1) 10000) 100))*2))+1))))) (o9.1+(yc (ya .i64 (o9.2.2.2.1-4)))) (nth .u8 zdJ (yc (ya .u32 ((ya .u32 (yp (yh (ya .u32 o9.2.2.1) 10000) 100))*2))))) (o9.1+(yc (ya .i64 ((ya .i64 (o9.2.2.2.1-4))-1)))) (nth .u8 zdJ (yc (ya .u32 ((ya .u32 ((yh (ya .u32 (yp (ya .u32 o9.2.2.1) 10000)) 100)*2))+1))))) (o9.1+(yc (ya .i64 ((ya .i64 (o9.2.2.2.1-4))-2)))) (nth .u8 zdJ (yc (ya .u32 ((yh (ya .u32 (yp (ya .u32 o9.2.2.1) 10000)) 100)*2))))) 0 (0+((yc y2.1)-0))),())) none)) none) none) none) none) (cond (decide (0<(ya .i64 (o9.2.2.2.1-4)))) (cond (inb 0 o9.2.1) (cond (wo 0 y2.1 24) (some ((slice (yr (yr (yr (yr (yr o9.2.2.2.2 (o9.1+(yc (ya .i64 (o9.2.2.2.1-1)))) (nth .u8 zdJ (yc (ya .u32 ((ya .u32 ((yh (yh (ya .u32 o9.2.2.1) 10000) 100)*2))+1))))) (o9.1+(yc (ya .i64 (o9.2.2.2.1-2)))) (nth .u8 zdJ (yc (ya .u32 ((yh (yh (ya .u32 o9.2.2.1) 10000) 100)*2))))) (o9.1+(yc (ya .i64 (o9.2.2.2.1-3)))) (nth .u8 zdJ (yc (ya .u32 ((ya .u32 ((ya .u32 (yp (yh (ya .u32 o9.2.2.1) 10000) 100))*2))+1))))) (o9.1+(yc (ya .i64 (o9.2.2.2.1-4)))) (nth .u8 zdJ (yc (ya .u32 ((ya .u32 (yp (yh (ya .u32 o9.2.2.1) 10000) 100))*2))))) (o9.1+0) (zdC (ya .u32 (48+(ya .u32 (yp (ya .u32 o9.2.2.1) 10000)))))) 0 (0+((yc y2.1)-0))),())) none) none) (cond (wo 0 y2.1 24) (some ((slice (yr (yr (yr (yr o9.2.2.2.2 (o9.1+(yc (ya .i64 (o9.2.2.2.1-1)))) (nth .u8 zdJ (yc (ya .u32 ((ya .u32 ((yh (yh (ya .u32 o9.2.2.1) 10000) 100)*2))+1))))) (o9.1+(yc (ya .i64 (o9.2.2.2.1-2)))) (nth .u8 zdJ (yc (ya .u32 ((yh (yh (ya .u32 o9.2.2.1) 10000) 100)*2))))) (o9.1+(yc (ya .i64 (o9.2.2.2.1-3)))) (nth .u8 zdJ (yc (ya .u32 ((ya .u32 ((ya .u32 (yp (yh (ya .u32 o9.2.2.1) 10000) 100))*2))+1))))) (o9.1+(yc (ya .i64 (o9.2.2.2.1-4)))) (nth .u8 zdJ (yc (ya .u32 ((ya .u32 (yp (yh (ya .u32 o9.2.2.1) 10000) 100))*2))))) 0 (0+((yc y2.1)-0))),())) none))) none) none) none) none) none) none) none) none) (cond (decide (2<=o9.2.2.2.1)) (cond (inb (ya .u32 ((ya .u32 ((yh (ya .u32 o9.2.2.1) 100)*2))+1)) 200) (cond (inb (ya .u32 ((yh (ya .u32 o9.2.2.1) 100)*2)) 200) (cond (inb (ya .i64 (o9.2.2.2.1-1)) o9.2.1) (cond (inb (ya .i64 (o9.2.2.2.1-2)) o9.2.1) (cond (decide (0<(ya .i64 (o9.2.2.2.1-2)))) (cond (inb 0 o9.2.1) (cond (wo 0 y2.1 24) (some ((slice (yr (yr (yr o9.2.2.2.2 (o9.1+(yc (ya .i64 (o9.2.2.2.1-1)))) (nth .u8 zdJ (yc (ya .u32 ((ya .u32 ((yh (ya .u32 o9.2.2.1) 100)*2))+1))))) (o9.1+(yc (ya .i64 (o9.2.2.2.1-2)))) (nth .u8 zdJ (yc (ya .u32 ((yh (ya .u32 o9.2.2.1) 100)*2))))) (o9.1+0) (zdC (ya .u32 (48+(ya .u32 (yp (ya .u32 o9.2.2.1) 100)))))) 0 (0+((yc y2.1)-0))),())) none) none) (cond (wo 0 y2.1 24) (some ((slice (yr (yr o9.2.2.2.2 (o9.1+(yc (ya .i64 (o9.2.2.2.1-1)))) (nth .u8 zdJ (yc (ya .u32 ((ya .u32 ((yh (ya .u32 o9.2.2.1) 100)*2))+1))))) (o9.1+(yc (ya .i64 (o9.2.2.2.1-2)))) (nth .u8 zdJ (yc (ya .u32 ((yh (ya .u32 o9.2.2.1) 100)*2))))) 0 (0+((yc y2.1)-0))),())) none)) none) none) none) none) (cond (decide (0<o9.2.2.2.1)) (cond (inb 0 o9.2.1) (cond (wo 0 y2.1 24) (some ((slice (yr o9.2.2.2.2 (o9.1+0) (zdC (ya .u32 (48+(ya .u32 o9.2.2.1))))) 0 (0+((yc y2.1)-0))),())) none) none) (cond (wo 0 y2.1 24) (some ((slice o9.2.2.2.2 0 (0+((yc y2.1)-0))),())) none))))) none)))
def wT(N:Nat)(p0:LB):Option (Int×Bool×Unit):=
 (cond (yF (yb p0) zp3) (zsm (Go.Lib.parseUintB 32 p0) (fun u1=>((zl N (ya .u32 u1)).bind fun y2=>(cond (y2.1 != p0) (some (0,false,())) (some ((ya .u32 u1),true,()))))) (some (0,false,())) (some (0,false,()))) none)
def zQ(N:Nat)(p0:LB):Option (LB×Unit):=
 (cond (yk (0+(yb p0)) zG) (some (([]++p0),())) none)
def qS(N:Nat)(p0:LB)(p1:Int):Option (LB×Int×Bool×Unit):=
 (cond (decide (p1<0)) (some ([],0,false,())) (cond (decide (((yb p0:Nat):Int)<=p1)) (some ([],0,false,())) (cond (inb (ya .i64 ((ya .i64 (p1+1))-1)) (yb p0)) (cond (!((nth .u8 p0 (yc (ya .i64 ((ya .i64 (p1+1))-1))))==123)) (some ([],0,false,())) (cond (jf (ya .i64 (p1+1)) p0&&true) ((jG N (zf p0 (yc (ya .i64 (p1+1)))) 125).bind fun y1=>(cond (decide (y1.1<0)) (some ([],0,false,())) (cond ((wo (ya .i64 (p1+1)) (ya .i64 ((ya .i64 (p1+1))+y1.1)) (yb p0))&&true) ((wT N (slice p0 (yc (ya .i64 (p1+1))) (yc (ya .i64 ((ya .i64 (p1+1))+y1.1))))).bind fun y2=>(cond (!y2.2.1) (some ([],0,false,())) (cond (decide (65536<y2.1)) (some ([],0,false,())) (cond (decide ((ya .i64 ((ya .i64 (p1+1))+(ya .i64 (y1.1+1))))<0)) (some ([],0,false,())) (cond (decide (((yb p0:Nat):Int)<=(ya .i64 ((ya .i64 (p1+1))+(ya .i64 (y1.1+1)))))) (some ([],0,false,())) (cond (inb (ya .i64 ((ya .i64 ((ya .i64 ((ya .i64 (p1+1))+(ya .i64 (y1.1+1))))+1))-1)) (yb p0)) (cond (!((nth .u8 p0 (yc (ya .i64 ((ya .i64 ((ya .i64 ((ya .i64 (p1+1))+(ya .i64 (y1.1+1))))+1))-1))))==13)) (some ([],0,false,())) (cond (decide ((ya .i64 ((ya .i64 ((ya .i64 (p1+1))+(ya .i64 (y1.1+1))))+1))<0)) (some ([],0,false,())) (cond (decide (((yb p0:Nat):Int)<=(ya .i64 ((ya .i64 ((ya .i64 (p1+1))+(ya .i64 (y1.1+1))))+1)))) (some ([],0,false,())) (cond (inb (ya .i64 ((ya .i64 ((ya .i64 ((ya .i64 ((ya .i64 (p1+1))+(ya .i64 (y1.1+1))))+1))+1))-1)) (yb p0)) (cond (!((nth .u8 p0 (yc (ya .i64 ((ya .i64 ((ya .i64 ((ya .i64 ((ya .i64 (p1+1))+(ya .i64 (y1.1+1))))+1))+1))-1))))==10)) (some ([],0,false,())) (cond (decide ((ya .i64 (((yb p0:Nat):Int)-(ya .i64 ((ya .i64 ((ya .i64 ((ya .i64 (p1+1))+(ya .i64 (y1.1+1))))+1))+1))))<(ya .i64 y2.1))) (some ([],0,false,())) (cond ((wo (ya .i64 ((ya .i64 ((ya .i64 ((ya .i64 (p1+1))+(ya .i64 (y1.1+1))))+1))+1)) (ya .i64 ((ya .i64 ((ya .i64 ((ya .i64 ((ya .i64 (p1+1))+(ya .i64 (y1.1+1))))+1))+1))+(ya .i64 y2.1))) (yb p0))&&true) ((zQ N (slice p0 (yc (ya .i64 ((ya .i64 ((ya .i64 ((ya .i64 (p1+1))+(ya .i64 (y1.1+1))))+1))+1))) (yc (ya .i64 ((ya .i64 ((ya .i64 ((ya .i64 ((ya .i64 (p1+1))+(ya .i64 (y1.1+1))))+1))+1))+(ya .i64 y2.1)))))).bind fun y3=>(some (y3.1,(ya .i64 ((ya .i64 ((ya .i64 ((ya .i64 ((ya .i64 (p1+1))+(ya .i64 (y1.1+1))))+1))+1))+(ya .i64 y2.1))),true,()))) none))) none)))) none)))))) none))) none)) none)))
def qI(N:Nat)(p0:LB)(p1:UInt8):Option (Int×Unit):=
 (some ((ke p1 p0 0),()))
def xM(N:Nat)(p0:LB)(p1:UInt8):Option (Int×Unit):=
 ((qI N p0 p1).bind fun y1=>(some (y1.1,())))
def xA(N:Nat)(p0:UInt8):Option (Bool×Unit):=
 (cond (decide (32<p0)) (cond (decide (p0<=126)) ((xM N [40,41,34,123] p0).bind fun y1=>(some ((decide (y1.1<0)),()))) (some (false,()))) (some (false,())))
def zbg(N:Nat){R:Type}(x81:Int)(x82:LB)(x83:Int)(rec_:Int->LB->Int->Option R)(o0:Int->LB->Int->Option R):Option R:=
 (cond (decide (x83<((yb x82:Nat):Int))) (cond (inb x83 (yb x82)) ((xA N (nth .u8 x82 (yc x83))).bind fun y86=>(cond y86.1 (rec_ x81 x82 (ya .i64 (x83+1))) (o0 x81 x82 x83))) none) (o0 x81 x82 x83))
def qp(N:Nat):Nat->Int->LB->Int->Option (Int×LB×Int)
 |0,_,_,_=>none
 |m+1,x81,x82,x83=>zbg N x81 x82 x83 (qp N m) (fun v0 v1 v2=>some (v0,v1,v2))
def zbf(N:Nat){R:Type}(x62:LB)(x63:Int)(x64:List (El uS1))(rec_:LB->Int->(List (El uS1))->Option R)(o0:LB->Int->(List (El uS1))->Option R)(o1:Int->LB->Int->(List (El uS1))->Option R):Option R:=
 (cond (x63==((yb x62:Nat):Int)) (cond (yk ((yb x64)+1) zG) (o0 x62 x63 (x64++([(0,([],x63))]:List (El uS1)))) none) (cond (inb x63 (yb x62)) (cond ((nth .u8 x62 (yc x63))==32) (cond (yk ((yb x64)+1) zG) (rec_ x62 (ya .i64 (x63+1)) (x64++([(1,([],x63))]:List (El uS1)))) none) (cond ((nth .u8 x62 (yc x63))==40) (cond (yk ((yb x64)+1) zG) (rec_ x62 (ya .i64 (x63+1)) (x64++([(2,([],x63))]:List (El uS1)))) none) (cond ((nth .u8 x62 (yc x63))==41) (cond (yk ((yb x64)+1) zG) (rec_ x62 (ya .i64 (x63+1)) (x64++([(3,([],x63))]:List (El uS1)))) none) (cond ((nth .u8 x62 (yc x63))==34) ((j5 N x62 x63).bind fun y77=>(cond y77.2.2.1 (cond (!y77.2.2.1) (o1 x63 x62 y77.2.1 x64) (cond (yk ((yb x64)+1) zG) (rec_ x62 y77.2.1 (x64++([(5,(y77.1,x63))]:List (El uS1)))) none)) (cond (!y77.2.2.1) (o1 x63 x62 x63 x64) (cond (yk ((yb x64)+1) zG) (rec_ x62 x63 (x64++([(5,(y77.1,x63))]:List (El uS1)))) none)))) (cond ((nth .u8 x62 (yc x63))==123) ((qS N x62 x63).bind fun y78=>(cond y78.2.2.1 (cond (!y78.2.2.1) (o1 x63 x62 y78.2.1 x64) (cond (yk ((yb x64)+1) zG) (rec_ x62 y78.2.1 (x64++([(6,(y78.1,x63))]:List (El uS1)))) none)) (cond (!y78.2.2.1) (o1 x63 x62 x63 x64) (cond (yk ((yb x64)+1) zG) (rec_ x62 x63 (x64++([(6,(y78.1,x63))]:List (El uS1)))) none)))) ((qp N N x63 x62 x63).bind fun o87=>(cond ((wo o87.1 o87.2.2 (yb o87.2.1))&&true) (cond (!(decide (o87.1<o87.2.2))) (o1 x63 o87.2.1 o87.2.2 x64) (cond (yk ((yb x64)+1) zG) (rec_ o87.2.1 o87.2.2 (x64++([(4,((slice o87.2.1 (yc o87.1) (yc o87.2.2)),x63))]:List (El uS1)))) none)) none))))))) none))
def zL(N:Nat):Nat->LB->Int->(List (El uS1))->Option ((LB×Int×(List (El uS1))) ⊕ (Int×LB×Int×(List (El uS1))))
 |0,_,_,_=>none
 |m+1,x62,x63,x64=>zbf N x62 x63 x64 (zL N m) (fun v0 v1 v2=>some (Sum.inl (v0,v1,v2))) (fun v0 v1 v2 v3=>some (Sum.inr (v0,v1,v2,v3)))
def xz(N:Nat)(p0:LB):Option ((List (El uS1))×Int×Unit):=
 ((zL N N p0 0 []).bind fun o92=>(ze o92 (fun a93=>(some (a93.2.2,(-1),()))) (fun b94=>(some ([],b94.1,())))))
def zbV(N:Nat){R:Type}(x4:List Int)(x5:Int)(x6:Int)(x7:Int)(rec_:(List Int)->Int->Int->Int->Option R)(o0:Int->Option R)(o1:Unit->Option R):Option R:=
 (cond (decide (x7<x6)) (cond (inb x7 (yb x4)) (cond (x5==(nth (.int .i64) x4 (yc x7))) (o0 x7) (rec_ x4 x5 x6 (ya .i64 (x7+1)))) none) (o1 ()))
def zH(N:Nat):Nat->(List Int)->Int->Int->Int->Option ((Int) ⊕ (Unit))
 |0,_,_,_,_=>none
 |m+1,x4,x5,x6,x7=>zbV N x4 x5 x6 x7 (zH N m) (fun v0=>some (Sum.inl v0)) (fun _=>some (Sum.inr ()))
def qQ(N:Nat)(p0:(List Int))(p1:Int):Option (Int×Unit):=
 ((zH N N p0 p1 ((yb p0:Nat):Int) 0).bind fun o13=>(ze o13 (fun a14=>(some (a14,()))) (fun b15=>(some ((-1),())))))
def za(N:Nat)(p0:(List Int))(p1:Int):Option (Bool×Unit):=
 ((qQ N p0 p1).bind fun y1=>(some ((decide (0<=y1.1)),())))
def zcD(N:Nat){R:Type}(x5:Int)(x6:Int)(x7:LB)(rec_:Int->Int->LB->Option R)(o0:LB->Option R):Option R:=
 (cond (decide (x6<x5)) (cond (inb x6 (yb x7)) (cond (decide (97<=(nth .u8 x7 (yc x6)))) (cond (decide ((nth .u8 x7 (yc x6))<=122)) (cond (inb x6 (yb x7)) (rec_ x5 (ya .i64 (x6+1)) (yr x7 (yc x6) ((nth .u8 x7 (yc x6)) &&& ~~~32))) none) (cond (inb x6 (yb x7)) (rec_ x5 (ya .i64 (x6+1)) (yr x7 (yc x6) (nth .u8 x7 (yc x6)))) none)) (cond (inb x6 (yb x7)) (rec_ x5 (ya .i64 (x6+1)) (yr x7 (yc x6) (nth .u8 x7 (yc x6)))) none)) none) (o0 x7))
def qX(N:Nat):Nat->Int->Int->LB->Option LB
 |0,_,_,_=>none
 |m+1,x5,x6,x7=>zcD N x5 x6 x7 (qX N m) (fun v0=>some v0)
def j1(N:Nat)(p0:LB):Option (LB×Unit):=
 (cond (yk (yb p0) zG) ((qX N N ((yb p0:Nat):Int) 0 p0).bind fun o9=>(some (o9,()))) none)
def zah(N:Nat){R:Type}(x4:List LB)(x5:LB)(x6:Int)(x7:Int)(rec_:(List LB)->LB->Int->Int->Option R)(o0:Int->Option R)(o1:Unit->Option R):Option R:=
 (cond (decide (x7<x6)) (cond (inb x7 (yb x4)) (cond (x5==(nth .str x4 (yc x7))) (o0 x7) (rec_ x4 x5 x6 (ya .i64 (x7+1)))) none) (o1 ()))
def zi(N:Nat):Nat->(List LB)->LB->Int->Int->Option ((Int) ⊕ (Unit))
 |0,_,_,_,_=>none
 |m+1,x4,x5,x6,x7=>zah N x4 x5 x6 x7 (zi N m) (fun v0=>some (Sum.inl v0)) (fun _=>some (Sum.inr ()))
def zm(N:Nat)(p0:(List LB))(p1:LB):Option (Int×Unit):=
 ((zi N N p0 p1 ((yb p0:Nat):Int) 0).bind fun o13=>(ze o13 (fun a14=>(some (a14,()))) (fun b15=>(some ((-1),())))))
def ko(N:Nat)(p0:LB):Option (Int×Bool×Unit):=
 ((j1 N p0).bind fun y1=>((zm N ([[78,79,79,80],[76,79,71,79,85,84],[67,76,79,83,69],[69,88,80,85,78,71,69],[83,69,76,69,67,84],[65,80,80,69,78,68],[70,69,84,67,72],[83,84,79,82,69]]:List LB) y1.1).bind fun y2=>(some ((ya .i64 (y2.1+1)),(decide (0<=y2.1)),()))))
def zau(N:Nat)(p0:UInt8):Option (Bool×Unit):=
 ((zbm N p0).bind fun y1=>(some (y1.1,())))
def zU(N:Nat)(p0:UInt8):Option (Bool×Unit):=
 ((zau N p0).bind fun y1=>(cond y1.1 (some (true,())) (some ((p0==93),()))))
def jC(N:Nat)(p0:LB)(p1:LB):Option (Bool×Unit):=
 (cond (decide (((yb p1:Nat):Int)<=((yb p0:Nat):Int))) (cond (wo 0 ((yb p1:Nat):Int) (yb p0)) (some (((slice p0 0 (yc ((yb p1:Nat):Int)))==p1),())) none) (some (false,())))
def jB(N:Nat)(p0:LB)(p1:LB):Option (LB×Bool×Unit):=
 ((jC N p0 p1).bind fun y1=>(cond (!y1.1) (some (p0,false,())) (cond (wo ((yb p1:Nat):Int) ((yb p0:Nat):Int) (yb p0)) (some ((slice p0 (yc ((yb p1:Nat):Int)) (yc ((yb p0:Nat):Int))),true,())) none)))
def jS(N:Nat)(p0:LB)(p1:LB):Option (LB×Bool×Unit):=
 ((jB N p0 p1).bind fun y1=>(some (y1.1,y1.2.1,())))
def qH(N:Nat)(p0:LB)(p1:LB):Option (Bool×Unit):=
 (cond (decide (((yb p1:Nat):Int)<=((yb p0:Nat):Int))) (cond (wo (ya .i64 (((yb p0:Nat):Int)-((yb p1:Nat):Int))) ((yb p0:Nat):Int) (yb p0)) (some (((slice p0 (yc (ya .i64 (((yb p0:Nat):Int)-((yb p1:Nat):Int)))) (yc ((yb p0:Nat):Int)))==p1),())) none) (some (false,())))
def qG(N:Nat)(p0:LB)(p1:LB):Option (LB×Bool×Unit):=
 ((qH N p0 p1).bind fun y1=>(cond (!y1.1) (some (p0,false,())) (cond (wo 0 (ya .i64 (((yb p0:Nat):Int)-((yb p1:Nat):Int))) (yb p0)) (some ((slice p0 0 (yc (ya .i64 (((yb p0:Nat):Int)-((yb p1:Nat):Int))))),true,())) none)))
def qg(N:Nat)(p0:LB)(p1:LB):Option (LB×Bool×Unit):=
 ((qG N p0 p1).bind fun y1=>(some (y1.1,y1.2.1,())))
def zhk(N:Nat){R:Type}(x6:UInt8)(x7:Int)(x8:LB)(rec_:UInt8->Int->LB->Option R)(o0:LB->Option R):Option R:=
 (cond (decide (x7<5)) (cond (decide (0<=x7)) (cond ((x6 &&& (zxW 1 x7)) != 0) (cond (yk ((yb x8)+1) zG) (rec_ x6 (ya .i64 (x7+1)) (x8++([(x6 &&& (zxW 1 x7))]:LB))) none) (rec_ x6 (ya .i64 (x7+1)) x8)) none) (o0 x8))
def kq(N:Nat):Nat->UInt8->Int->LB->Option LB
 |0,_,_,_=>none
 |m+1,x6,x7,x8=>zhk N x6 x7 x8 (kq N m) (fun v0=>some v0)
def zbJ(N:Nat)(p0:UInt8):Option (LB×Unit):=
 ((kq N N p0 0 []).bind fun o10=>(some (o10,())))
def zhl(N:Nat){R:Type}(x3:UInt8)(x4:Int)(x5:List LB)(rec_:UInt8->Int->(List LB)->Option R)(o0:LB->(List LB)->Option R)(o1:(List LB)->Option R):Option R:=
 (cond (decide (x4<5)) (cond (inb x4 (yb x5)) (cond (decide (0<=x4)) (cond (x3==(zxW 1 x4)) (o0 (nth .str x5 (yc x4)) x5) (rec_ x3 (ya .i64 (x4+1)) x5)) none) none) (o1 x5))
def kr(N:Nat):Nat->UInt8->Int->(List LB)->Option ((LB×(List LB)) ⊕ ((List LB)))
 |0,_,_,_=>none
 |m+1,x3,x4,x5=>zhl N x3 x4 x5 (kr N m) (fun v0 v1=>some (Sum.inl (v0,v1))) (fun v0=>some (Sum.inr v0))
def zc5(N:Nat)(p0:UInt8):Option (LB×Unit):=
 ((kr N N p0 0 ([[92,65,110,115,119,101,114,101,100],[92,70,108,97,103,103,101,100],[92,68,101,108,101,116,101,100],[92,83,101,101,110],[92,68,114,97,102,116]]:List LB)).bind fun o11=>(ze o11 (fun a12=>(some (a12.1,()))) (fun b13=>(some ([],())))))
def zfk(N:Nat){R:Type}(x21:LB)(x22:Int)(x23:Int)(x24:List (LB×UInt8))(rec_:LB->Int->Int->(List (LB×UInt8))->Option R)(o0:(List (LB×UInt8))->Option R):Option R:=
 (cond (decide (x23<x22)) (cond (inb x23 (yb x21)) ((zc5 N (nth .u8 x21 (yc x23))).bind fun y28=>((j1 N y28.1).bind fun y29=>(rec_ x21 x22 (ya .i64 (x23+1)) (zl2 .str .u8 x24 y29.1 (nth .u8 x21 (yc x23)))))) none) (o0 x24))
def jn(N:Nat):Nat->LB->Int->Int->(List (LB×UInt8))->Option ((List (LB×UInt8)))
 |0,_,_,_,_=>none
 |m+1,x21,x22,x23,x24=>zfk N x21 x22 x23 x24 (jn N m) (fun v0=>some v0)
def zab(N:Nat){R:Type}(x40:UInt8)(x41:Int)(x42:Int)(x43:List (LB×UInt8))(x44:List LB)(rec_:UInt8->Int->Int->(List (LB×UInt8))->(List LB)->Option R)(o0:UInt8->(List (LB×UInt8))->(List LB)->Option R)(o1:UInt8->(List (LB×UInt8))->(List LB)->Option R):Option R:=
 (cond (decide (x42<x41)) (cond (inb x42 (yb x44)) ((j1 N (nth .str x44 (yc x42))).bind fun y47=>(cond (!(Option.isSome (zcQ .str .u8 x43 y47.1))) (o0 0 x43 x44) (rec_ (x40 ||| (Option.getD (zcQ .str .u8 x43 y47.1) 0)) x41 (ya .i64 (x42+1)) x43 x44))) none) (o1 x40 x43 x44))
def qK(N:Nat):Nat->UInt8->Int->Int->(List (LB×UInt8))->(List LB)->Option ((UInt8×(List (LB×UInt8))×(List LB)) ⊕ (UInt8×(List (LB×UInt8))×(List LB)))
 |0,_,_,_,_,_=>none
 |m+1,x40,x41,x42,x43,x44=>zab N x40 x41 x42 x43 x44 (qK N m) (fun v0 v1 v2=>some (Sum.inl (v0,v1,v2))) (fun v0 v1 v2=>some (Sum.inr (v0,v1,v2)))
def wQ(N:Nat)(p0:LB):Option (UInt8×Bool×Unit):=
 ((jS N p0 [40]).bind fun y1=>((qg N y1.1 [41]).bind fun y2=>(cond (!y1.2.1) (some (0,false,())) (cond (!y2.2.1) (some (0,false,())) (cond (y2.1==[]) (some (0,true,())) ((zbJ N 31).bind fun y3=>((jn N N y3.1 ((yb y3.1:Nat):Int) 0 []).bind fun o30=>(cond (yF (yb y2.1) zd1) ((qK N N 0 (((yb (wN y2.1 [32])):Nat):Int) 0 o30 (wN y2.1 [32])).bind fun o52=>(ze o52 (fun a53=>(some (a53.1,false,()))) (fun b54=>(some (b54.1,true,()))))) none))))))))
def qv(N:Nat)(p0:LB):Option (Int×Bool×Unit):=
 (cond (p0==[42]) (some (0,true,())) ((wT N p0).bind fun y1=>(cond y1.2.1 (some (y1.1,(y1.1 != 0),())) (some (y1.1,false,())))))
def zbd(N:Nat){R:Type}(x30:Int)(x31:Int)(x32:List LB)(x33:List (Int×Int))(rec_:Int->Int->(List LB)->(List (Int×Int))->Option R)(o0:(List LB)->(List (Int×Int))->Option R)(o1:(List LB)->(List (Int×Int))->Option R):Option R:=
 (cond (decide (x31<x30)) (cond (inb x31 (yb x32)) (cond ([58]==(nth .str x32 (yc x31))) (cond (wo 0 0 (yb (nth .str x32 (yc x31)))) (cond (wo 1 (((yb (nth .str x32 (yc x31))):Nat):Int) (yb (nth .str x32 (yc x31)))) ((qv N (slice (nth .str x32 (yc x31)) 0 0)).bind fun y42=>((qv N (slice (nth .str x32 (yc x31)) 1 (yc (((yb (nth .str x32 (yc x31))):Nat):Int)))).bind fun y43=>(cond (!y42.2.1) (o0 x32 x33) (cond (!y43.2.1) (o0 x32 x33) (cond (yk ((yb x33)+1) zG) (rec_ x30 (ya .i64 (x31+1)) x32 (x33++([(y42.1,y43.1)]:List (Int×Int)))) none))))) none) none) ((qI N (nth .str x32 (yc x31)) 58).bind fun y44=>(cond (decide (0<=y44.1)) (cond (wo 0 y44.1 (yb (nth .str x32 (yc x31)))) (cond (wo (ya .i64 (y44.1+1)) (((yb (nth .str x32 (yc x31))):Nat):Int) (yb (nth .str x32 (yc x31)))) ((qv N (slice (nth .str x32 (yc x31)) 0 (yc y44.1))).bind fun y45=>((qv N (slice (nth .str x32 (yc x31)) (yc (ya .i64 (y44.1+1))) (yc (((yb (nth .str x32 (yc x31))):Nat):Int)))).bind fun y46=>(cond (!y45.2.1) (o0 x32 x33) (cond (!y46.2.1) (o0 x32 x33) (cond (yk ((yb x33)+1) zG) (rec_ x30 (ya .i64 (x31+1)) x32 (x33++([(y45.1,y46.1)]:List (Int×Int)))) none))))) none) none) ((qv N (nth .str x32 (yc x31))).bind fun y47=>((qv N (nth .str x32 (yc x31))).bind fun y48=>(cond (!y47.2.1) (o0 x32 x33) (cond (!y48.2.1) (o0 x32 x33) (cond (yk ((yb x33)+1) zG) (rec_ x30 (ya .i64 (x31+1)) x32 (x33++([(y47.1,y48.1)]:List (Int×Int)))) none)))))))) none) (o1 x32 x33))
def zD(N:Nat):Nat->Int->Int->(List LB)->(List (Int×Int))->Option (((List LB)×(List (Int×Int))) ⊕ ((List LB)×(List (Int×Int))))
 |0,_,_,_,_=>none
 |m+1,x30,x31,x32,x33=>zbd N x30 x31 x32 x33 (zD N m) (fun v0 v1=>some (Sum.inl (v0,v1))) (fun v0 v1=>some (Sum.inr (v0,v1)))
def wk(N:Nat)(p0:LB):Option ((List (Int×Int))×Bool×Unit):=
 (cond (yF (yb p0) zd1) ((zD N N (((yb (wN p0 [44])):Nat):Int) 0 (wN p0 [44]) []).bind fun o53=>(ze o53 (fun a54=>(some ([],false,()))) (fun b55=>(some (b55.2,true,()))))) none)
def jF(N:Nat)(p0:LB):Option (Int×Bool×Unit):=
 ((j1 N p0).bind fun y1=>((zm N ([[70,76,65,71,83],[85,73,68],[82,70,67,56,50,50,46,83,73,90,69],[66,79,68,89,46,80,69,69,75,91,93],[66,79,68,89,91,93]]:List LB) y1.1).bind fun y2=>(cond (decide (y2.1<0)) (some (0,false,())) (cond (decide (0<=y2.1)) (some ((ya .i64 (1*(2 ^ (min (yc y2.1) (yj .i64))))),true,())) none))))
def zaQ(N:Nat){R:Type}(x18:LB)(x19:Int)(x20:Int)(rec_:LB->Int->Int->Option R)(o0:Unit->Option R)(o1:Unit->Option R):Option R:=
 (cond (decide (x20<x19)) (cond (inb x20 (yb x18)) ((zU N (nth .u8 x18 (yc x20))).bind fun y23=>(cond (!y23.1) (o0 ()) (rec_ x18 x19 (ya .i64 (x20+1))))) none) (o1 ()))
def qb(N:Nat):Nat->LB->Int->Int->Option ((Unit) ⊕ (Unit))
 |0,_,_,_=>none
 |m+1,x18,x19,x20=>zaQ N x18 x19 x20 (qb N m) (fun _=>some (Sum.inl ())) (fun _=>some (Sum.inr ()))
def j2(N:Nat){R:Type}(x40:List (El uS1))(x41:LB)(x42:Int)(x43:LB)(x44:UInt8)(rec_:(List (El uS1))->LB->Int->LB->UInt8->Option R)(o0:(List (El uS1))->LB->Int->LB->UInt8->Option R)(o1:(List (El uS1))->LB->Int->LB->UInt8->Option R):Option R:=
 (cond (inb 0 (yb x40)) ((za N ([4]:List Int) (nth uS1 x40 0).1).bind fun y49=>(cond (!y49.1) (o0 x40 x41 x42 x43 x44) (cond (jf 1 x40&&true) (cond (decide (yb ([40]:LB)+yb (nth uS1 x40 0).2.1<4611686018427387904)) (cond (decide (yb (([40]:LB)++(nth uS1 x40 0).2.1)+yb ([41]:LB)<4611686018427387904)) ((wQ N ((([40]:LB)++(nth uS1 x40 0).2.1)++([41]:LB))).bind fun y50=>(cond y50.2.1 (cond (!((nth uS1 x40 0).2.1 != ([]:LB))) (o0 (zf x40 1) x41 x42 x43 x44) (cond (inb 0 (yb (zf x40 1))) (cond ((nth uS1 (zf x40 1) 0).1==(3:Int)) (o1 (zf x40 1) x41 x42 x43 (x44 ||| y50.1)) (cond (inb 0 (yb (zf x40 1))) ((za N ([1]:List Int) (nth uS1 (zf x40 1) 0).1).bind fun y51=>(cond (!y51.1) (o0 (zf x40 1) x41 x42 x43 (x44 ||| y50.1)) (cond (jf 1 (zf x40 1)&&true) (rec_ (zf (zf x40 1) 1) x41 x42 x43 (x44 ||| y50.1)) none))) none)) none)) (o0 (zf x40 1) x41 x42 x43 x44))) none) none) none))) none)
def zA(N:Nat):Nat->(List (El uS1))->LB->Int->LB->UInt8->Option (((List (El uS1))×LB×Int×LB×UInt8) ⊕ ((List (El uS1))×LB×Int×LB×UInt8))
 |0,_,_,_,_,_=>none
 |m+1,x40,x41,x42,x43,x44=>j2 N x40 x41 x42 x43 x44 (zA N m) (fun v0 v1 v2 v3 v4=>some (Sum.inl (v0,v1,v2,v3,v4))) (fun v0 v1 v2 v3 v4=>some (Sum.inr (v0,v1,v2,v3,v4)))
def zaR(N:Nat){R:Type}(x75:LB)(x76:Int)(x77:Int)(rec_:LB->Int->Int->Option R)(o0:Unit->Option R)(o1:Unit->Option R):Option R:=
 (cond (decide (x77<x76)) (cond (inb x77 (yb x75)) ((zU N (nth .u8 x75 (yc x77))).bind fun y80=>(cond (!y80.1) (o0 ()) (rec_ x75 x76 (ya .i64 (x77+1))))) none) (o1 ()))
def qc(N:Nat):Nat->LB->Int->Int->Option ((Unit) ⊕ (Unit))
 |0,_,_,_=>none
 |m+1,x75,x76,x77=>zaR N x75 x76 x77 (qc N m) (fun _=>some (Sum.inl ())) (fun _=>some (Sum.inr ()))
def zdD(N:Nat){R:Type}(x94:List (El uS1))(x95:LB)(x96:Int)(x97:LB)(x98:UInt8)(rec_:(List (El uS1))->LB->Int->LB->UInt8->Option R)(o0:(List (El uS1))->LB->Int->LB->UInt8->Option R)(o1:(List (El uS1))->LB->Int->LB->UInt8->Option R):Option R:=
 (cond (inb 0 (yb x94)) ((za N ([4]:List Int) (nth uS1 x94 0).1).bind fun y103=>(cond (!y103.1) (o0 x94 x95 x96 x97 x98) (cond (jf 1 x94&&true) (cond (decide (yb ([40]:LB)+yb (nth uS1 x94 0).2.1<4611686018427387904)) (cond (decide (yb (([40]:LB)++(nth uS1 x94 0).2.1)+yb ([41]:LB)<4611686018427387904)) ((wQ N ((([40]:LB)++(nth uS1 x94 0).2.1)++([41]:LB))).bind fun y104=>(cond y104.2.1 (cond (!((nth uS1 x94 0).2.1 != ([]:LB))) (o0 (zf x94 1) x95 x96 x97 x98) (cond (inb 0 (yb (zf x94 1))) (cond ((nth uS1 (zf x94 1) 0).1==(3:Int)) (o1 (zf x94 1) x95 x96 x97 (x98 ||| y104.1)) (cond (inb 0 (yb (zf x94 1))) ((za N ([1]:List Int) (nth uS1 (zf x94 1) 0).1).bind fun y105=>(cond (!y105.1) (o0 (zf x94 1) x95 x96 x97 (x98 ||| y104.1)) (cond (jf 1 (zf x94 1)&&true) (rec_ (zf (zf x94 1) 1) x95 x96 x97 (x98 ||| y104.1)) none))) none)) none)) (o0 (zf x94 1) x95 x96 x97 x98))) none) none) none))) none)
def jq(N:Nat):Nat->(List (El uS1))->LB->Int->LB->UInt8->Option (((List (El uS1))×LB×Int×LB×UInt8) ⊕ ((List (El uS1))×LB×Int×LB×UInt8))
 |0,_,_,_,_,_=>none
 |m+1,x94,x95,x96,x97,x98=>zdD N x94 x95 x96 x97 x98 (jq N m) (fun v0 v1 v2 v3 v4=>some (Sum.inl (v0,v1,v2,v3,v4))) (fun v0 v1 v2 v3 v4=>some (Sum.inr (v0,v1,v2,v3,v4)))
def jV(N:Nat){R:Type}(x143:List (El uS1))(x144:LB)(x145:Int)(x146:List (Int×Int))(x147:Int)(x148:UInt8)(rec_:(List (El uS1))->LB->Int->(List (Int×Int))->Int->UInt8->Option R)(o0:(List (El uS1))->LB->Int->(List (Int×Int))->Int->UInt8->Option R)(o1:(List (El uS1))->LB->Int->(List (Int×Int))->Int->UInt8->Option R):Option R:=
 (cond (inb 0 (yb x143)) ((za N ([4]:List Int) (nth uS1 x143 0).1).bind fun y153=>(cond (!y153.1) (o0 x143 x144 x145 x146 x147 x148) (cond (jf 1 x143&&true) ((jF N (nth uS1 x143 0).2.1).bind fun y154=>(cond (!y154.2.1) (o0 (zf x143 1) x144 x145 x146 x147 x148) (cond (inb 0 (yb (zf x143 1))) (cond ((nth uS1 (zf x143 1) 0).1==(3:Int)) (o1 (zf x143 1) x144 x145 x146 (zbu .or .i64 x147 y154.1) x148) (cond (inb 0 (yb (zf x143 1))) ((za N ([1]:List Int) (nth uS1 (zf x143 1) 0).1).bind fun y155=>(cond (!y155.1) (o0 (zf x143 1) x144 x145 x146 (zbu .or .i64 x147 y154.1) x148) (cond (jf 1 (zf x143 1)&&true) (rec_ (zf (zf x143 1) 1) x144 x145 x146 (zbu .or .i64 x147 y154.1) x148) none))) none)) none))) none))) none)
def zt(N:Nat):Nat->(List (El uS1))->LB->Int->(List (Int×Int))->Int->UInt8->Option (((List (El uS1))×LB×Int×(List (Int×Int))×Int×UInt8) ⊕ ((List (El uS1))×LB×Int×(List (Int×Int))×Int×UInt8))
 |0,_,_,_,_,_,_=>none
 |m+1,x143,x144,x145,x146,x147,x148=>jV N x143 x144 x145 x146 x147 x148 (zt N m) (fun v0 v1 v2 v3 v4 v5=>some (Sum.inl (v0,v1,v2,v3,v4,v5))) (fun v0 v1 v2 v3 v4 v5=>some (Sum.inr (v0,v1,v2,v3,v4,v5)))
def jW(N:Nat){R:Type}(x179:List (El uS1))(x180:LB)(x181:Int)(x182:List (Int×Int))(x183:Int)(x184:Bool)(x185:UInt8)(rec_:(List (El uS1))->LB->Int->(List (Int×Int))->Int->(Bool)->UInt8->Option R)(o0:(List (El uS1))->LB->Int->(List (Int×Int))->Int->(Bool)->UInt8->Option R)(o1:(List (El uS1))->LB->Int->(List (Int×Int))->Int->(Bool)->UInt8->Option R):Option R:=
 (cond (inb 0 (yb x179)) ((za N ([4]:List Int) (nth uS1 x179 0).1).bind fun y190=>(cond (!y190.1) (o0 x179 x180 x181 x182 x183 x184 x185) (cond (jf 1 x179&&true) (cond (decide (yb ([40]:LB)+yb (nth uS1 x179 0).2.1<4611686018427387904)) (cond (decide (yb (([40]:LB)++(nth uS1 x179 0).2.1)+yb ([41]:LB)<4611686018427387904)) ((wQ N ((([40]:LB)++(nth uS1 x179 0).2.1)++([41]:LB))).bind fun y191=>(cond y191.2.1 (cond (!((nth uS1 x179 0).2.1 != ([]:LB))) (o0 (zf x179 1) x180 x181 x182 x183 x184 x185) (cond (inb 0 (yb (zf x179 1))) (cond ((nth uS1 (zf x179 1) 0).1==(3:Int)) (o1 (zf x179 1) x180 x181 x182 x183 x184 (x185 ||| y191.1)) (cond (inb 0 (yb (zf x179 1))) ((za N ([1]:List Int) (nth uS1 (zf x179 1) 0).1).bind fun y192=>(cond (!y192.1) (o0 (zf x179 1) x180 x181 x182 x183 x184 (x185 ||| y191.1)) (cond (jf 1 (zf x179 1)&&true) (rec_ (zf (zf x179 1) 1) x180 x181 x182 x183 x184 (x185 ||| y191.1)) none))) none)) none)) (o0 (zf x179 1) x180 x181 x182 x183 x184 x185))) none) none) none))) none)
def zv(N:Nat):Nat->(List (El uS1))->LB->Int->(List (Int×Int))->Int->(Bool)->UInt8->Option (((List (El uS1))×LB×Int×(List (Int×Int))×Int×(Bool)×UInt8) ⊕ ((List (El uS1))×LB×Int×(List (Int×Int))×Int×(Bool)×UInt8))
 |0,_,_,_,_,_,_,_=>none
 |m+1,x179,x180,x181,x182,x183,x184,x185=>jW N x179 x180 x181 x182 x183 x184 x185 (zv N m) (fun v0 v1 v2 v3 v4 v5 v6=>some (Sum.inl (v0,v1,v2,v3,v4,v5,v6))) (fun v0 v1 v2 v3 v4 v5 v6=>some (Sum.inr (v0,v1,v2,v3,v4,v5,v6)))
def jX(N:Nat){R:Type}(x208:List (El uS1))(x209:LB)(x210:Int)(x211:List (Int×Int))(x212:Int)(x213:Bool)(x214:UInt8)(rec_:(List (El uS1))->LB->Int->(List (Int×Int))->Int->(Bool)->UInt8->Option R)(o0:(List (El uS1))->LB->Int->(List (Int×Int))->Int->(Bool)->UInt8->Option R)(o1:(List (El uS1))->LB->Int->(List (Int×Int))->Int->(Bool)->UInt8->Option R):Option R:=
 (cond (inb 0 (yb x208)) ((za N ([4]:List Int) (nth uS1 x208 0).1).bind fun y219=>(cond (!y219.1) (o0 x208 x209 x210 x211 x212 x213 x214) (cond (jf 1 x208&&true) (cond (decide (yb ([40]:LB)+yb (nth uS1 x208 0).2.1<4611686018427387904)) (cond (decide (yb (([40]:LB)++(nth uS1 x208 0).2.1)+yb ([41]:LB)<4611686018427387904)) ((wQ N ((([40]:LB)++(nth uS1 x208 0).2.1)++([41]:LB))).bind fun y220=>(cond y220.2.1 (cond (!((nth uS1 x208 0).2.1 != ([]:LB))) (o0 (zf x208 1) x209 x210 x211 x212 x213 x214) (cond (inb 0 (yb (zf x208 1))) (cond ((nth uS1 (zf x208 1) 0).1==(0:Int)) (o1 (zf x208 1) x209 x210 x211 x212 x213 (x214 ||| y220.1)) (cond (inb 0 (yb (zf x208 1))) ((za N ([1]:List Int) (nth uS1 (zf x208 1) 0).1).bind fun y221=>(cond (!y221.1) (o0 (zf x208 1) x209 x210 x211 x212 x213 (x214 ||| y220.1)) (cond (jf 1 (zf x208 1)&&true) (rec_ (zf (zf x208 1) 1) x209 x210 x211 x212 x213 (x214 ||| y220.1)) none))) none)) none)) (o0 (zf x208 1) x209 x210 x211 x212 x213 x214))) none) none) none))) none)
def zB(N:Nat):Nat->(List (El uS1))->LB->Int->(List (Int×Int))->Int->(Bool)->UInt8->Option (((List (El uS1))×LB×Int×(List (Int×Int))×Int×(Bool)×UInt8) ⊕ ((List (El uS1))×LB×Int×(List (Int×Int))×Int×(Bool)×UInt8))
 |0,_,_,_,_,_,_,_=>none
 |m+1,x208,x209,x210,x211,x212,x213,x214=>jX N x208 x209 x210 x211 x212 x213 x214 (zB N m) (fun v0 v1 v2 v3 v4 v5 v6=>some (Sum.inl (v0,v1,v2,v3,v4,v5,v6))) (fun v0 v1 v2 v3 v4 v5 v6=>some (Sum.inr (v0,v1,v2,v3,v4,v5,v6)))
def B1(N:Nat)(tag:LB)(kd:Int)(l:List (El uS1)):Option ((El uS2)×Bool×Unit):=
 (cond (inb (0:Int) (yb l)) ((za N ([(0:Int)]:List Int) (nth uS1 l 0).1).bind fun y5=>(cond (!y5.1) (some ((tag,((0:Int),(([]:LB),(([]:List (Int×Int)),((0:Int),((0:Int),(false,((0:UInt8),([]:LB))))))))),false,())) (cond (jf (1:Int) l&&true) (some ((tag,(kd,(([]:LB),(([]:List (Int×Int)),((0:Int),((0:Int),(false,((0:UInt8),([]:LB))))))))),true,())) none))) none)
def E5(N:Nat)(tag:LB)(kd:Int)(mb:LB)(q:List (El uS1)):Option ((El uS2)×Bool×Unit):=
 (cond (inb (0:Int) (yb q)) ((za N ([(0:Int)]:List Int) (nth uS1 q 0).1).bind fun y11=>(cond (!y11.1) (some ((tag,((0:Int),(([]:LB),(([]:List (Int×Int)),((0:Int),((0:Int),(false,((0:UInt8),([]:LB))))))))),false,())) (cond (jf (1:Int) q&&true) (some ((tag,(kd,(mb,(([]:List (Int×Int)),((0:Int),((0:Int),(false,((0:UInt8),([]:LB))))))))),true,())) none))) none)
def B5(N:Nat)(tag:LB)(kd:Int)(l:List (El uS1)):Option ((El uS2)×Bool×Unit):=
 (cond (inb (0:Int) (yb l)) ((za N ([(1:Int)]:List Int) (nth uS1 l 0).1).bind fun y9=>(cond (!y9.1) (some ((tag,((0:Int),(([]:LB),(([]:List (Int×Int)),((0:Int),((0:Int),(false,((0:UInt8),([]:LB))))))))),false,())) (cond (jf (1:Int) l&&true) (cond (inb (0:Int) (yb (zf l 1))) (cond (inb (0:Int) (yb (zf l 1))) ((za N ([(4:Int),(5:Int),(6:Int)]:List Int) (nth uS1 (zf l 1) 0).1).bind fun y10=>(cond (!y10.1) (some ((tag,((0:Int),(([]:LB),(([]:List (Int×Int)),((0:Int),((0:Int),(false,((0:UInt8),([]:LB))))))))),false,())) (cond (jf (1:Int) (zf l 1)&&true) (cond ((nth uS1 (zf l 1) 0).1 != (4:Int)) (E5 N tag kd (nth uS1 (zf l 1) 0).2.1 (zf (zf l 1) 1)) (cond ((nth uS1 (zf l 1) 0).2.1 != ([]:LB)) ((qb N N (nth uS1 (zf l 1) 0).2.1 (((yb (nth uS1 (zf l 1) 0).2.1):Nat):Int) (0:Int)).bind fun o26=>(ze o26 (fun a27=>(some ((tag,((0:Int),(([]:LB),(([]:List (Int×Int)),((0:Int),((0:Int),(false,((0:UInt8),([]:LB))))))))),false,()))) (fun b28=>(E5 N tag kd (nth uS1 (zf l 1) 0).2.1 (zf (zf l 1) 1))))) (some ((tag,((0:Int),(([]:LB),(([]:List (Int×Int)),((0:Int),((0:Int),(false,((0:UInt8),([]:LB))))))))),false,())))) none))) none) none) none))) none)
def G6(N:Nat)(tag:LB)(tag1:LB)(kd1:Int)(mb1:LB)(f:UInt8)(l:List (El uS1)):Option ((El uS2)×Bool×Unit):=
 (cond (inb (0:Int) (yb l)) ((za N ([(3:Int)]:List Int) (nth uS1 l 0).1).bind fun y55=>(cond (!y55.1) (some ((tag,((0:Int),(([]:LB),(([]:List (Int×Int)),((0:Int),((0:Int),(false,((0:UInt8),([]:LB))))))))),false,())) (cond (jf (1:Int) l&&true) (cond (inb (0:Int) (yb (zf l 1))) ((za N ([(1:Int)]:List Int) (nth uS1 (zf l 1) 0).1).bind fun y56=>(cond (!y56.1) (some ((tag,((0:Int),(([]:LB),(([]:List (Int×Int)),((0:Int),((0:Int),(false,((0:UInt8),([]:LB))))))))),false,())) (cond (jf (1:Int) (zf l 1)&&true) (cond (inb (0:Int) (yb (zf (zf l 1) 1))) ((za N ([(6:Int)]:List Int) (nth uS1 (zf (zf l 1) 1) 0).1).bind fun y57=>(cond (!y57.1) (some ((tag,((0:Int),(([]:LB),(([]:List (Int×Int)),((0:Int),((0:Int),(false,((0:UInt8),([]:LB))))))))),false,())) (cond (jf (1:Int) (zf (zf l 1) 1)&&true) (cond (yk (yb (nth uS1 (zf (zf l 1) 1) 0).2.1) zG) (cond (inb (0:Int) (yb (zf (zf (zf l 1) 1) 1))) ((za N ([(0:Int)]:List Int) (nth uS1 (zf (zf (zf l 1) 1) 1) 0).1).bind fun y58=>(cond (!y58.1) (some ((tag,((0:Int),(([]:LB),(([]:List (Int×Int)),((0:Int),((0:Int),(false,((0:UInt8),([]:LB))))))))),false,())) (cond (jf (1:Int) (zf (zf (zf l 1) 1) 1)&&true) (some ((tag1,(kd1,(mb1,(([]:List (Int×Int)),((0:Int),((0:Int),(false,(f,(nth uS1 (zf (zf l 1) 1) 0).2.1)))))))),true,())) none))) none) none) none))) none) none))) none) none))) none)
def D6(N:Nat)(tag:LB)(kd:Int)(mb:LB)(r:List (El uS1)):Option ((El uS2)×Bool×Unit):=
 (cond (inb (0:Int) (yb r)) (cond ((nth uS1 r 0).1==(2:Int)) (cond (inb (0:Int) (yb r)) ((za N ([(2:Int)]:List Int) (nth uS1 r 0).1).bind fun y33=>(cond (!y33.1) (some ((tag,((0:Int),(([]:LB),(([]:List (Int×Int)),((0:Int),((0:Int),(false,((0:UInt8),([]:LB))))))))),false,())) (cond (jf (1:Int) r&&true) (cond (inb (0:Int) (yb (zf r 1))) (cond ((nth uS1 (zf r 1) 0).1 != (3:Int)) ((zA N N (zf r 1) tag kd mb (0:UInt8)).bind fun o52=>(ze o52 (fun a53=>(some ((tag,((0:Int),(([]:LB),(([]:List (Int×Int)),((0:Int),((0:Int),(false,((0:UInt8),([]:LB))))))))),false,()))) (fun b54=>(G6 N tag b54.2.1 b54.2.2.1 b54.2.2.2.1 b54.2.2.2.2 b54.1)))) (G6 N tag tag kd mb (0:UInt8) (zf r 1))) none) none))) none) (cond (inb (0:Int) (yb r)) ((za N ([(6:Int)]:List Int) (nth uS1 r 0).1).bind fun y63=>(cond (!y63.1) (some ((tag,((0:Int),(([]:LB),(([]:List (Int×Int)),((0:Int),((0:Int),(false,((0:UInt8),([]:LB))))))))),false,())) (cond (jf (1:Int) r&&true) (cond (yk (yb (nth uS1 r 0).2.1) zG) (cond (inb (0:Int) (yb (zf r 1))) ((za N ([(0:Int)]:List Int) (nth uS1 (zf r 1) 0).1).bind fun y64=>(cond (!y64.1) (some ((tag,((0:Int),(([]:LB),(([]:List (Int×Int)),((0:Int),((0:Int),(false,((0:UInt8),([]:LB))))))))),false,())) (cond (jf (1:Int) (zf r 1)&&true) (some ((tag,(kd,(mb,(([]:List (Int×Int)),((0:Int),((0:Int),(false,((0:UInt8),(nth uS1 r 0).2.1)))))))),true,())) none))) none) none) none))) none)) none)
def C6(N:Nat)(tag:LB)(kd:Int)(mb:LB)(q:List (El uS1)):Option ((El uS2)×Bool×Unit):=
 (cond (inb (0:Int) (yb q)) ((za N ([(1:Int)]:List Int) (nth uS1 q 0).1).bind fun y32=>(cond (!y32.1) (some ((tag,((0:Int),(([]:LB),(([]:List (Int×Int)),((0:Int),((0:Int),(false,((0:UInt8),([]:LB))))))))),false,())) (cond (jf (1:Int) q&&true) (D6 N tag kd mb (zf q 1)) none))) none)
def B6(N:Nat)(tag:LB)(kd:Int)(l:List (El uS1)):Option ((El uS2)×Bool×Unit):=
 (cond (inb (0:Int) (yb l)) ((za N ([(1:Int)]:List Int) (nth uS1 l 0).1).bind fun y30=>(cond (!y30.1) (some ((tag,((0:Int),(([]:LB),(([]:List (Int×Int)),((0:Int),((0:Int),(false,((0:UInt8),([]:LB))))))))),false,())) (cond (jf (1:Int) l&&true) (cond (inb (0:Int) (yb (zf l 1))) (cond (inb (0:Int) (yb (zf l 1))) ((za N ([(4:Int),(5:Int),(6:Int)]:List Int) (nth uS1 (zf l 1) 0).1).bind fun y31=>(cond (!y31.1) (some ((tag,((0:Int),(([]:LB),(([]:List (Int×Int)),((0:Int),((0:Int),(false,((0:UInt8),([]:LB))))))))),false,())) (cond (jf (1:Int) (zf l 1)&&true) (cond ((nth uS1 (zf l 1) 0).1 != (4:Int)) (C6 N tag kd (nth uS1 (zf l 1) 0).2.1 (zf (zf l 1) 1)) (cond ((nth uS1 (zf l 1) 0).2.1 != ([]:LB)) ((qc N N (nth uS1 (zf l 1) 0).2.1 (((yb (nth uS1 (zf l 1) 0).2.1):Nat):Int) (0:Int)).bind fun o79=>(ze o79 (fun a80=>(some ((tag,((0:Int),(([]:LB),(([]:List (Int×Int)),((0:Int),((0:Int),(false,((0:UInt8),([]:LB))))))))),false,()))) (fun b81=>(C6 N tag kd (nth uS1 (zf l 1) 0).2.1 (zf (zf l 1) 1))))) (some ((tag,((0:Int),(([]:LB),(([]:List (Int×Int)),((0:Int),((0:Int),(false,((0:UInt8),([]:LB))))))))),false,())))) none))) none) none) none))) none)
def D7(N:Nat)(tag:LB)(kd:Int)(st:List (Int×Int))(r:List (El uS1)):Option ((El uS2)×Bool×Unit):=
 (cond (inb (0:Int) (yb r)) (cond ((nth uS1 r 0).1 != (2:Int)) (cond (inb (0:Int) (yb r)) ((za N ([(4:Int)]:List Int) (nth uS1 r 0).1).bind fun y119=>(cond (!y119.1) (some ((tag,((0:Int),(([]:LB),(([]:List (Int×Int)),((0:Int),((0:Int),(false,((0:UInt8),([]:LB))))))))),false,())) (cond (jf (1:Int) r&&true) ((jF N (nth uS1 r 0).2.1).bind fun y120=>(cond (!y120.2.1) (some ((tag,((0:Int),(([]:LB),(([]:List (Int×Int)),((0:Int),((0:Int),(false,((0:UInt8),([]:LB))))))))),false,())) (cond (inb (0:Int) (yb (zf r 1))) ((za N ([(0:Int)]:List Int) (nth uS1 (zf r 1) 0).1).bind fun y121=>(cond (!y121.1) (some ((tag,((0:Int),(([]:LB),(([]:List (Int×Int)),((0:Int),((0:Int),(false,((0:UInt8),([]:LB))))))))),false,())) (cond (jf (1:Int) (zf r 1)&&true) (some ((tag,(kd,(([]:LB),(st,((zbu .or .i64 (0:Int) y120.1),((0:Int),(false,((0:UInt8),([]:LB))))))))),true,())) none))) none))) none))) none) (cond (inb (0:Int) (yb r)) ((za N ([(2:Int)]:List Int) (nth uS1 r 0).1).bind fun y122=>(cond (!y122.1) (some ((tag,((0:Int),(([]:LB),(([]:List (Int×Int)),((0:Int),((0:Int),(false,((0:UInt8),([]:LB))))))))),false,())) (cond (jf (1:Int) r&&true) ((zt N N (zf r 1) tag kd st (0:Int) (0:UInt8)).bind fun o150=>(ze o150 (fun a151=>(some ((tag,((0:Int),(([]:LB),(([]:List (Int×Int)),((0:Int),((0:Int),(false,((0:UInt8),([]:LB))))))))),false,()))) (fun b152=>(cond (inb (0:Int) (yb b152.1)) ((za N ([(3:Int)]:List Int) (nth uS1 b152.1 0).1).bind fun y153=>(cond (!y153.1) (some ((tag,((0:Int),(([]:LB),(([]:List (Int×Int)),((0:Int),((0:Int),(false,((0:UInt8),([]:LB))))))))),false,())) (cond (jf (1:Int) b152.1&&true) (cond (inb (0:Int) (yb (zf b152.1 1))) ((za N ([(0:Int)]:List Int) (nth uS1 (zf b152.1 1) 0).1).bind fun y154=>(cond (!y154.1) (some ((tag,((0:Int),(([]:LB),(([]:List (Int×Int)),((0:Int),((0:Int),(false,((0:UInt8),([]:LB))))))))),false,())) (cond (jf (1:Int) (zf b152.1 1)&&true) (some ((b152.2.1,(b152.2.2.1,(([]:LB),(b152.2.2.2.1,(b152.2.2.2.2.1,((0:Int),(false,(b152.2.2.2.2.2,([]:LB))))))))),true,())) none))) none) none))) none)))) none))) none)) none)
def B7(N:Nat)(tag:LB)(kd:Int)(l:List (El uS1)):Option ((El uS2)×Bool×Unit):=
 (cond (inb (0:Int) (yb l)) ((za N ([(1:Int)]:List Int) (nth uS1 l 0).1).bind fun y115=>(cond (!y115.1) (some ((tag,((0:Int),(([]:LB),(([]:List (Int×Int)),((0:Int),((0:Int),(false,((0:UInt8),([]:LB))))))))),false,())) (cond (jf (1:Int) l&&true) (cond (inb (0:Int) (yb (zf l 1))) ((za N ([(4:Int)]:List Int) (nth uS1 (zf l 1) 0).1).bind fun y116=>(cond (!y116.1) (some ((tag,((0:Int),(([]:LB),(([]:List (Int×Int)),((0:Int),((0:Int),(false,((0:UInt8),([]:LB))))))))),false,())) (cond (jf (1:Int) (zf l 1)&&true) ((wk N (nth uS1 (zf l 1) 0).2.1).bind fun y117=>(cond (!y117.2.1) (some ((tag,((0:Int),(([]:LB),(([]:List (Int×Int)),((0:Int),((0:Int),(false,((0:UInt8),([]:LB))))))))),false,())) (cond (inb (0:Int) (yb (zf (zf l 1) 1))) ((za N ([(1:Int)]:List Int) (nth uS1 (zf (zf l 1) 1) 0).1).bind fun y118=>(cond (!y118.1) (some ((tag,((0:Int),(([]:LB),(([]:List (Int×Int)),((0:Int),((0:Int),(false,((0:UInt8),([]:LB))))))))),false,())) (cond (jf (1:Int) (zf (zf l 1) 1)&&true) (D7 N tag kd y117.1 (zf (zf (zf l 1) 1) 1)) none))) none))) none))) none) none))) none)
def G8(N:Nat)(tag:LB)(tag1:LB)(kd1:Int)(st1:List (Int×Int))(md1:Int)(sl1:Bool)(f:UInt8)(l:List (El uS1)):Option ((El uS2)×Bool×Unit):=
 (cond (inb (0:Int) (yb l)) ((za N ([(3:Int)]:List Int) (nth uS1 l 0).1).bind fun y188=>(cond (!y188.1) (some ((tag,((0:Int),(([]:LB),(([]:List (Int×Int)),((0:Int),((0:Int),(false,((0:UInt8),([]:LB))))))))),false,())) (cond (jf (1:Int) l&&true) (cond (inb (0:Int) (yb (zf l 1))) ((za N ([(0:Int)]:List Int) (nth uS1 (zf l 1) 0).1).bind fun y189=>(cond (!y189.1) (some ((tag,((0:Int),(([]:LB),(([]:List (Int×Int)),((0:Int),((0:Int),(false,((0:UInt8),([]:LB))))))))),false,())) (cond (jf (1:Int) (zf l 1)&&true) (some ((tag1,(kd1,(([]:LB),(st1,((0:Int),(md1,(sl1,(f,([]:LB))))))))),true,())) none))) none) none))) none)
def D8(N:Nat)(tag:LB)(kd:Int)(st:List (Int×Int))(md:Int)(sl:Bool)(r:List (El uS1)):Option ((El uS2)×Bool×Unit):=
 (cond (inb (0:Int) (yb r)) (cond ((nth uS1 r 0).1==(2:Int)) (cond (inb (0:Int) (yb r)) ((za N ([(2:Int)]:List Int) (nth uS1 r 0).1).bind fun y164=>(cond (!y164.1) (some ((tag,((0:Int),(([]:LB),(([]:List (Int×Int)),((0:Int),((0:Int),(false,((0:UInt8),([]:LB))))))))),false,())) (cond (jf (1:Int) r&&true) (cond (inb (0:Int) (yb (zf r 1))) (cond ((nth uS1 (zf r 1) 0).1 != (3:Int)) ((zv N N (zf r 1) tag kd st md sl (0:UInt8)).bind fun o185=>(ze o185 (fun a186=>(some ((tag,((0:Int),(([]:LB),(([]:List (Int×Int)),((0:Int),((0:Int),(false,((0:UInt8),([]:LB))))))))),false,()))) (fun b187=>(G8 N tag b187.2.1 b187.2.2.1 b187.2.2.2.1 b187.2.2.2.2.1 b187.2.2.2.2.2.1 b187.2.2.2.2.2.2 b187.1)))) (G8 N tag tag kd st md sl (0:UInt8) (zf r 1))) none) none))) none) ((zB N N r tag kd st md sl (0:UInt8)).bind fun o212=>(ze o212 (fun a213=>(some ((tag,((0:Int),(([]:LB),(([]:List (Int×Int)),((0:Int),((0:Int),(false,((0:UInt8),([]:LB))))))))),false,()))) (fun b214=>(cond (inb (0:Int) (yb b214.1)) ((za N ([(0:Int)]:List Int) (nth uS1 b214.1 0).1).bind fun y215=>(cond (!y215.1) (some ((tag,((0:Int),(([]:LB),(([]:List (Int×Int)),((0:Int),((0:Int),(false,((0:UInt8),([]:LB))))))))),false,())) (cond (jf (1:Int) b214.1&&true) (some ((b214.2.1,(b214.2.2.1,(([]:LB),(b214.2.2.2.1,((0:Int),(b214.2.2.2.2.1,(b214.2.2.2.2.2.1,(b214.2.2.2.2.2.2,([]:LB))))))))),true,())) none))) none))))) none)
def B8(N:Nat)(tag:LB)(kd:Int)(l:List (El uS1)):Option ((El uS2)×Bool×Unit):=
 (cond (inb (0:Int) (yb l)) ((za N ([(1:Int)]:List Int) (nth uS1 l 0).1).bind fun y155=>(cond (!y155.1) (some ((tag,((0:Int),(([]:LB),(([]:List (Int×Int)),((0:Int),((0:Int),(false,((0:UInt8),([]:LB))))))))),false,())) (cond (jf (1:Int) l&&true) (cond (inb (0:Int) (yb (zf l 1))) ((za N ([(4:Int)]:List Int) (nth uS1 (zf l 1) 0).1).bind fun y156=>(cond (!y156.1) (some ((tag,((0:Int),(([]:LB),(([]:List (Int×Int)),((0:Int),((0:Int),(false,((0:UInt8),([]:LB))))))))),false,())) (cond (jf (1:Int) (zf l 1)&&true) ((wk N (nth uS1 (zf l 1) 0).2.1).bind fun y157=>(cond (!y157.2.1) (some ((tag,((0:Int),(([]:LB),(([]:List (Int×Int)),((0:Int),((0:Int),(false,((0:UInt8),([]:LB))))))))),false,())) (cond (inb (0:Int) (yb (zf (zf l 1) 1))) ((za N ([(1:Int)]:List Int) (nth uS1 (zf (zf l 1) 1) 0).1).bind fun y158=>(cond (!y158.1) (some ((tag,((0:Int),(([]:LB),(([]:List (Int×Int)),((0:Int),((0:Int),(false,((0:UInt8),([]:LB))))))))),false,())) (cond (jf (1:Int) (zf (zf l 1) 1)&&true) (cond (inb (0:Int) (yb (zf (zf (zf l 1) 1) 1))) ((za N ([(4:Int)]:List Int) (nth uS1 (zf (zf (zf l 1) 1) 1) 0).1).bind fun y159=>(cond (!y159.1) (some ((tag,((0:Int),(([]:LB),(([]:List (Int×Int)),((0:Int),((0:Int),(false,((0:UInt8),([]:LB))))))))),false,())) (cond (jf (1:Int) (zf (zf (zf l 1) 1) 1)&&true) ((j1 N (nth uS1 (zf (zf (zf l 1) 1) 1) 0).2.1).bind fun y160=>((qg N y160.1 ([46,83,73,76,69,78,84]:LB)).bind fun y161=>((zm N ([([70,76,65,71,83]:LB),([43,70,76,65,71,83]:LB),([45,70,76,65,71,83]:LB)]:List LB) y161.1).bind fun y162=>(cond (!(decide (0<=y162.1))) (some ((tag,((0:Int),(([]:LB),(([]:List (Int×Int)),((0:Int),((0:Int),(false,((0:UInt8),([]:LB))))))))),false,())) (cond (inb (0:Int) (yb (zf (zf (zf (zf l 1) 1) 1) 1))) ((za N ([(1:Int)]:List Int) (nth uS1 (zf (zf (zf (zf l 1) 1) 1) 1) 0).1).bind fun y163=>(cond (!y163.1) (some ((tag,((0:Int),(([]:LB),(([]:List (Int×Int)),((0:Int),((0:Int),(false,((0:UInt8),([]:LB))))))))),false,())) (cond (jf (1:Int) (zf (zf (zf (zf l 1) 1) 1) 1)&&true) (D8 N tag kd y157.1 y162.1 y161.2.1 (zf (zf (zf (zf (zf l 1) 1) 1) 1) 1)) none))) none))))) none))) none) none))) none))) none))) none) none))) none)
def wv(N:Nat)(p0:LB):Option ((El uS2)×Bool×Unit):=
 ((zbW N p0).bind fun y1=>(cond (!y1.2.2.1) (some ((y1.1,((0:Int),(([]:LB),(([]:List (Int×Int)),((0:Int),((0:Int),(false,((0:UInt8),([]:LB))))))))),false,())) (cond (jf y1.2.1 p0&&true) ((xz N (zf p0 (yc y1.2.1))).bind fun y2=>(cond (!(decide (y2.2.1<0))) (some ((y1.1,((0:Int),(([]:LB),(([]:List (Int×Int)),((0:Int),((0:Int),(false,((0:UInt8),([]:LB))))))))),false,())) (cond (inb (0:Int) (yb y2.1)) ((za N ([(4:Int)]:List Int) (nth uS1 y2.1 0).1).bind fun y3=>(cond (!y3.1) (some ((y1.1,((0:Int),(([]:LB),(([]:List (Int×Int)),((0:Int),((0:Int),(false,((0:UInt8),([]:LB))))))))),false,())) (cond (jf (1:Int) y2.1&&true) ((ko N (nth uS1 y2.1 0).2.1).bind fun y4=>(cond (!y4.2.1) (some ((y1.1,((0:Int),(([]:LB),(([]:List (Int×Int)),((0:Int),((0:Int),(false,((0:UInt8),([]:LB))))))))),false,())) (cond (y4.1==1) (B1 N y1.1 y4.1 (zf y2.1 1)) (cond (y4.1==2) (B1 N y1.1 y4.1 (zf y2.1 1)) (cond (y4.1==3) (B1 N y1.1 y4.1 (zf y2.1 1)) (cond (y4.1==4) (B1 N y1.1 y4.1 (zf y2.1 1)) (cond (y4.1==5) (B5 N y1.1 y4.1 (zf y2.1 1)) (cond (y4.1==6) (B6 N y1.1 y4.1 (zf y2.1 1)) (cond (y4.1==7) (B7 N y1.1 y4.1 (zf y2.1 1)) (cond (y4.1==8) (B8 N y1.1 y4.1 (zf y2.1 1)) none)))))))))) none))) none))) none)))
def xT(N:Nat)(p0:UInt8):Option (Bool×Unit):=
 (cond (p0==40) (cond (p0==40) (some (false,())) (cond (decide (32<p0)) (some ((decide (p0<127)),())) (some (false,())))) (cond (p0==41) (cond (p0==41) (some (false,())) (cond (decide (32<p0)) (some ((decide (p0<127)),())) (some (false,())))) (cond (p0==123) (cond (p0==123) (some (false,())) (cond (decide (32<p0)) (some ((decide (p0<127)),())) (some (false,())))) (cond (p0==37) (cond (p0==37) (some (false,())) (cond (decide (32<p0)) (some ((decide (p0<127)),())) (some (false,())))) (cond (p0==42) (cond (p0==42) (some (false,())) (cond (decide (32<p0)) (some ((decide (p0<127)),())) (some (false,())))) (cond (p0==34) (cond (p0==34) (some (false,())) (cond (decide (32<p0)) (some ((decide (p0<127)),())) (some (false,())))) (cond (p0==92) (cond (p0==92) (some (false,())) (cond (decide (32<p0)) (some ((decide (p0<127)),())) (some (false,())))) (cond (p0==93) (some (false,())) (cond (decide (32<p0)) (some ((decide (p0<127)),())) (some (false,())))))))))))
def zbP(N:Nat)(p0:UInt8):Option (Bool×Unit):=
 ((xT N p0).bind fun y1=>(cond y1.1 (cond (p0 != 43) (some (true,())) (some ((p0==93),()))) (some ((p0==93),()))))
def zaT(N:Nat)(p0:UInt8):Option (Bool×Unit):=
 (cond (decide (0<p0)) (cond (decide (p0<128)) (cond (p0 != 10) (some ((p0 != 13),())) (some (false,()))) (some (false,()))) (some (false,())))
def zba(N:Nat){R:Type}(x2:Int)(x3:LB)(rec_:Int->LB->Option R)(o0:Int->LB->Option R):Option R:=
 (cond (decide (10<=x2)) (cond (wo (yh x2 (10:Int)) (ya .u32 ((yh x2 (10:Int))+1)) 10) (cond (decide (yb (slice ([48,49,50,51,52,53,54,55,56,57]:LB) (yc (yh x2 (10:Int))) (yc (ya .u32 ((yh x2 (10:Int))+1))))+yb x3<4611686018427387904)) (rec_ (ya .u32 (yp x2 (10:Int))) ((slice ([48,49,50,51,52,53,54,55,56,57]:LB) (yc (yh x2 (10:Int))) (yc (ya .u32 ((yh x2 (10:Int))+1))))++x3)) none) none) (o0 x2 x3))
def jj(N:Nat):Nat->Int->LB->Option (Int×LB)
 |0,_,_=>none
 |m+1,x2,x3=>zba N x2 x3 (jj N m) (fun v0 v1=>some (v0,v1))
def wE(N:Nat)(p0:Int):Option (LB×Unit):=
 ((jj N N p0 ([]:LB)).bind fun o5=>(cond (wo o5.1 (ya .u32 (o5.1+1)) 10) (cond (decide (yb (slice ([48,49,50,51,52,53,54,55,56,57]:LB) (yc o5.1) (yc (ya .u32 (o5.1+1))))+yb o5.2<4611686018427387904)) (some (((slice ([48,49,50,51,52,53,54,55,56,57]:LB) (yc o5.1) (yc (ya .u32 (o5.1+1))))++o5.2),())) none) none))
def zbO(N:Nat){R:Type}(x2:LB)(x3:Int)(x4:Int)(rec_:LB->Int->Int->Option R)(o0:Unit->Option R)(o1:LB->Int->Option R):Option R:=
 (cond (decide (x4<((yb x2:Nat):Int))) (cond (inb x4 (yb x2)) (cond (decide ((nth .u8 x2 (yc x4))<48)) (o0 ()) (cond (inb x4 (yb x2)) (cond (decide (57<(nth .u8 x2 (yc x4)))) (o0 ()) (cond (inb x4 (yb x2)) (rec_ x2 (ya .u64 ((ya .u64 (10*x3))+(ya .u64 ((ym ((nth .u8 x2 (yc x4))-48):Nat):Int)))) (ya .i64 (x4+1))) none)) none)) none) (o1 x2 x3))
def jJ(N:Nat):Nat->LB->Int->Int->Option ((Unit) ⊕ (LB×Int))
 |0,_,_,_=>none
 |m+1,x2,x3,x4=>zbO N x2 x3 x4 (jJ N m) (fun _=>some (Sum.inl ())) (fun v0 v1=>some (Sum.inr (v0,v1)))
def zaG(N:Nat)(p0:LB):Option (Int×Bool×Unit):=
 (cond (decide (10<((yb p0:Nat):Int))) (some (0,false,())) ((jJ N N p0 0 0).bind fun o10=>(ze o10 (fun a11=>(some (0,false,()))) (fun b12=>(cond (decide (4294967295<b12.2)) (some (0,false,())) ((wE N (ya .u32 b12.2)).bind fun y13=>(cond (y13.1 != b12.1) (some (0,false,())) (some ((ya .u32 b12.2),true,())))))))))
def zhn(N:Nat)(p0:UInt8):Option (Bool×Unit):=
 (cond (decide (32<p0)) (cond (decide (p0<127)) (cond (p0 != 40) (cond (p0 != 41) (cond (p0 != 34) (some ((p0 != 123),())) (some (false,()))) (some (false,()))) (some (false,()))) (some (false,()))) (some (false,())))
def xV(N:Nat)(p0:Int):Option (LB×Unit):=
 (cond (decide (p0<1)) (some ([],())) (cond (decide (8<p0)) (some ([],())) (cond (inb (ya .i64 (p0-1)) 8) (some ((nth .str ([[78,79,79,80],[76,79,71,79,85,84],[67,76,79,83,69],[69,88,80,85,78,71,69],[83,69,76,69,67,84],[65,80,80,69,78,68],[70,69,84,67,72],[83,84,79,82,69]]:List LB) (yc (ya .i64 (p0-1)))),())) none)))
def zce(N:Nat){R:Type}(x2:LB)(x3:LB)(x4:Int)(rec_:LB->LB->Int->Option R)(o0:LB->Option R):Option R:=
 (cond (decide (x4<((yb x2:Nat):Int))) (cond (inb x4 (yb x2)) (cond (decide (97<=(nth .u8 x2 (yc x4)))) (cond (decide ((nth .u8 x2 (yc x4))<=122)) (cond (decide (yb x3+yb ([((nth .u8 x2 (yc x4))-32)]:LB)<4611686018427387904)) (rec_ x2 (x3++([((nth .u8 x2 (yc x4))-32)]:LB)) (ya .i64 (x4+1))) none) (cond (decide (yb x3+yb ([(nth .u8 x2 (yc x4))]:LB)<4611686018427387904)) (rec_ x2 (x3++([(nth .u8 x2 (yc x4))]:LB)) (ya .i64 (x4+1))) none)) (cond (decide (yb x3+yb ([(nth .u8 x2 (yc x4))]:LB)<4611686018427387904)) (rec_ x2 (x3++([(nth .u8 x2 (yc x4))]:LB)) (ya .i64 (x4+1))) none)) none) (o0 x3))
def xF(N:Nat):Nat->LB->LB->Int->Option LB
 |0,_,_,_=>none
 |m+1,x2,x3,x4=>zce N x2 x3 x4 (xF N m) (fun v0=>some v0)
def zF(N:Nat)(p0:LB):Option (LB×Unit):=
 ((xF N N p0 [] 0).bind fun o6=>(some (o6,())))
def zfp(N:Nat){R:Type}(x6:LB)(x7:Int)(rec_:LB->Int->Option R)(o0:Int->Option R)(o1:Unit->Option R):Option R:=
 (cond (decide (x7<=8)) ((xV N x7).bind fun y11=>((zF N x6).bind fun y12=>(cond (y11.1==y12.1) (o0 x7) (rec_ x6 (ya .i64 (x7+1)))))) (o1 ()))
def zb(N:Nat):Nat->LB->Int->Option ((Int) ⊕ (Unit))
 |0,_,_=>none
 |m+1,x6,x7=>zfp N x6 x7 (zb N m) (fun v0=>some (Sum.inl v0)) (fun _=>some (Sum.inr ()))
def zdO(N:Nat)(p0:LB):Option (Int×Unit):=
 ((zb N N p0 1).bind fun o17=>(ze o17 (fun a18=>(some (a18,()))) (fun b19=>(some (0,())))))
def zdL(N:Nat)(p0:Int):Option (LB×Unit):=
 (cond (p0==1) (some ([92,65,110,115,119,101,114,101,100],())) (cond (p0==2) (some ([92,70,108,97,103,103,101,100],())) (cond (p0==4) (some ([92,68,101,108,101,116,101,100],())) (cond (p0==8) (some ([92,83,101,101,110],())) (cond (p0==16) (some ([92,68,114,97,102,116],())) (some ([],())))))))
def xH(N:Nat)(p0:Int):Option (LB×Unit):=
 (cond (p0==1) (some ([70,76,65,71,83],())) (cond (p0==2) (some ([85,73,68],())) (cond (p0==4) (some ([82,70,67,56,50,50,46,83,73,90,69],())) (cond (p0==8) (some ([66,79,68,89,46,80,69,69,75,91,93],())) (cond (p0==16) (some ([66,79,68,89,91,93],())) (some ([],())))))))
def zfo(N:Nat){R:Type}(x6:LB)(x7:Int)(rec_:LB->Int->Option R)(o0:Int->Option R)(o1:Unit->Option R):Option R:=
 (cond (decide (x7<=16)) ((xH N x7).bind fun y11=>((zF N x6).bind fun y12=>(cond (y11.1==y12.1) (o0 x7) (rec_ x6 (ya .i64 (2*x7)))))) (o1 ()))
def zk(N:Nat):Nat->LB->Int->Option ((Int) ⊕ (Unit))
 |0,_,_=>none
 |m+1,x6,x7=>zfo N x6 x7 (zk N m) (fun v0=>some (Sum.inl v0)) (fun _=>some (Sum.inr ()))
def zdN(N:Nat)(p0:LB):Option (Int×Unit):=
 ((zk N N p0 1).bind fun o17=>(ze o17 (fun a18=>(some (a18,()))) (fun b19=>(some (0,())))))
def zaf(N:Nat){R:Type}(x19:Int)(x20:LB)(x21:Int)(x22:LB)(x23:List (Int×Int))(x24:Int)(x25:Int)(x26:Bool)(x27:UInt8)(x28:LB)(x29:LB)(x30:Int)(x31:LB)(x32:List (Int×Int))(x33:Int)(x34:Int)(x35:Bool)(x36:UInt8)(x37:LB)(rec_:Int->LB->Int->LB->(List (Int×Int))->Int->Int->(Bool)->UInt8->LB->LB->Int->LB->(List (Int×Int))->Int->Int->(Bool)->UInt8->LB->Option R)(o0:LB->Int->LB->(List (Int×Int))->Int->Int->(Bool)->UInt8->LB->LB->Int->LB->(List (Int×Int))->Int->Int->(Bool)->UInt8->LB->Option R)(o1:LB->Int->LB->(List (Int×Int))->Int->Int->(Bool)->UInt8->LB->LB->Int->LB->(List (Int×Int))->Int->Int->(Bool)->UInt8->LB->Option R):Option R:=
 (cond (decide (x19<((yb x23:Nat):Int))) (cond (inb x19 (yb x23)) (cond (inb x19 (yb x32)) (cond (!(((nth (.pair (.int .u32) (.int .u32)) x23 (yc x19)).1==(nth (.pair (.int .u32) (.int .u32)) x32 (yc x19)).1)&&(((nth (.pair (.int .u32) (.int .u32)) x23 (yc x19)).2==(nth (.pair (.int .u32) (.int .u32)) x32 (yc x19)).2)&&true))) (o0 x20 x21 x22 x23 x24 x25 x26 x27 x28 x29 x30 x31 x32 x33 x34 x35 x36 x37) (rec_ (ya .i64 (x19+1)) x20 x21 x22 x23 x24 x25 x26 x27 x28 x29 x30 x31 x32 x33 x34 x35 x36 x37)) none) none) (o1 x20 x21 x22 x23 x24 x25 x26 x27 x28 x29 x30 x31 x32 x33 x34 x35 x36 x37))
def qh(N:Nat):Nat->Int->LB->Int->LB->(List (Int×Int))->Int->Int->(Bool)->UInt8->LB->LB->Int->LB->(List (Int×Int))->Int->Int->(Bool)->UInt8->LB->Option ((LB×Int×LB×(List (Int×Int))×Int×Int×(Bool)×UInt8×LB×LB×Int×LB×(List (Int×Int))×Int×Int×(Bool)×UInt8×LB) ⊕ (LB×Int×LB×(List (Int×Int))×Int×Int×(Bool)×UInt8×LB×LB×Int×LB×(List (Int×Int))×Int×Int×(Bool)×UInt8×LB))
 |0,_,_,_,_,_,_,_,_,_,_,_,_,_,_,_,_,_,_,_=>none
 |m+1,x19,x20,x21,x22,x23,x24,x25,x26,x27,x28,x29,x30,x31,x32,x33,x34,x35,x36,x37=>zaf N x19 x20 x21 x22 x23 x24 x25 x26 x27 x28 x29 x30 x31 x32 x33 x34 x35 x36 x37 (qh N m) (fun v0 v1 v2 v3 v4 v5 v6 v7 v8 v9 v10 v11 v12 v13 v14 v15 v16 v17=>some (Sum.inl (v0,v1,v2,v3,v4,v5,v6,v7,v8,v9,v10,v11,v12,v13,v14,v15,v16,v17))) (fun v0 v1 v2 v3 v4 v5 v6 v7 v8 v9 v10 v11 v12 v13 v14 v15 v16 v17=>some (Sum.inr (v0,v1,v2,v3,v4,v5,v6,v7,v8,v9,v10,v11,v12,v13,v14,v15,v16,v17)))
def zS(N:Nat)(p0:(El uS2))(p1:(El uS2)):Option (Bool×Unit):=
 (cond (((yb p0.2.2.2.1:Nat):Int) != ((yb p1.2.2.2.1:Nat):Int)) (some (false,())) (cond (p0.2.2.2.2.2.2.2.2 != p1.2.2.2.2.2.2.2.2) (some (false,())) ((qh N N 0 p0.1 p0.2.1 p0.2.2.1 p0.2.2.2.1 p0.2.2.2.2.1 p0.2.2.2.2.2.1 p0.2.2.2.2.2.2.1 p0.2.2.2.2.2.2.2.1 p0.2.2.2.2.2.2.2.2 p1.1 p1.2.1 p1.2.2.1 p1.2.2.2.1 p1.2.2.2.2.1 p1.2.2.2.2.2.1 p1.2.2.2.2.2.2.1 p1.2.2.2.2.2.2.2.1 p1.2.2.2.2.2.2.2.2).bind fun o43=>(ze o43 (fun a44=>(some (false,()))) (fun b45=>(cond (b45.1==b45.2.2.2.2.2.2.2.2.2.1) (cond (b45.2.1==b45.2.2.2.2.2.2.2.2.2.2.1) (cond (b45.2.2.1==b45.2.2.2.2.2.2.2.2.2.2.2.1) (cond (b45.2.2.2.2.1==b45.2.2.2.2.2.2.2.2.2.2.2.2.2.1) (cond (b45.2.2.2.2.2.1==b45.2.2.2.2.2.2.2.2.2.2.2.2.2.2.1) (cond (b45.2.2.2.2.2.2.1==b45.2.2.2.2.2.2.2.2.2.2.2.2.2.2.2.1) (some ((b45.2.2.2.2.2.2.2.1==b45.2.2.2.2.2.2.2.2.2.2.2.2.2.2.2.2.1),())) (some (false,()))) (some (false,()))) (some (false,()))) (some (false,()))) (some (false,()))) (some (false,()))))))))
def qE(N:Nat)(p0:Int):Option (LB×Unit):=
 (cond (decide (1<=p0)) (cond (decide (p0<=8)) (cond (inb (ya .i64 (p0-1)) 8) (some ((nth .str ([[78,79,79,80],[76,79,71,79,85,84],[67,76,79,83,69],[69,88,80,85,78,71,69],[83,69,76,69,67,84],[65,80,80,69,78,68],[70,69,84,67,72],[83,84,79,82,69]]:List LB) (yc (ya .i64 (p0-1)))),())) none) (some ([],()))) (some ([],())))
def kQ(N:Nat){R:Type}(x4:List (Int×Int))(x5:List (Int×Int))(x6:Int)(x7:Int)(rec_:(List (Int×Int))->(List (Int×Int))->Int->Int->Option R)(o0:Unit->Option R)(o1:Unit->Option R):Option R:=
 (cond (decide (x7<x6)) (cond (inb x7 (yb x4)) (cond (inb x7 (yb x5)) (cond (!(((nth (.pair (.int .u32) (.int .u32)) x4 (yc x7)).1==(nth (.pair (.int .u32) (.int .u32)) x5 (yc x7)).1)&&(((nth (.pair (.int .u32) (.int .u32)) x4 (yc x7)).2==(nth (.pair (.int .u32) (.int .u32)) x5 (yc x7)).2)&&true))) (o0 ()) (rec_ x4 x5 x6 (ya .i64 (x7+1)))) none) none) (o1 ()))
def zw(N:Nat):Nat->(List (Int×Int))->(List (Int×Int))->Int->Int->Option ((Unit) ⊕ (Unit))
 |0,_,_,_,_=>none
 |m+1,x4,x5,x6,x7=>kQ N x4 x5 x6 x7 (zw N m) (fun _=>some (Sum.inl ())) (fun _=>some (Sum.inr ()))
def zI(N:Nat)(p0:(List (Int×Int)))(p1:(List (Int×Int))):Option (Bool×Unit):=
 (cond (((yb p0:Nat):Int) != ((yb p1:Nat):Int)) (some (false,())) ((zw N N p0 p1 ((yb p0:Nat):Int) 0).bind fun o13=>(ze o13 (fun a14=>(some (false,()))) (fun b15=>(some (true,()))))))
def qU(N:Nat)(p0:(El uS2))(p1:(El uS2)):Option (Bool×Unit):=
 (cond (p0.1==p1.1) (cond (p0.2.1==p1.2.1) (cond (p0.2.2.1==p1.2.2.1) ((zI N p0.2.2.2.1 p1.2.2.2.1).bind fun y1=>(cond y1.1 (cond (p0.2.2.2.2.1==p1.2.2.2.2.1) (cond (p0.2.2.2.2.2.1==p1.2.2.2.2.2.1) (cond (p0.2.2.2.2.2.2.1==p1.2.2.2.2.2.2.1) (cond (p0.2.2.2.2.2.2.2.1==p1.2.2.2.2.2.2.2.1) (some ((p0.2.2.2.2.2.2.2.2==p1.2.2.2.2.2.2.2.2),())) (some (false,()))) (some (false,()))) (some (false,()))) (some (false,()))) (some (false,())))) (some (false,()))) (some (false,()))) (some (false,())))
def zaS(N:Nat){R:Type}(x7:LB)(x8:Int)(x9:Int)(rec_:LB->Int->Int->Option R)(o0:Unit->Option R)(o1:Unit->Option R):Option R:=
 (cond (decide (x9<x8)) (cond (inb x9 (yb x7)) ((zbB N (nth .u8 x7 (yc x9))).bind fun y12=>(cond (!y12.1) (o0 ()) (rec_ x7 x8 (ya .i64 (x9+1))))) none) (o1 ()))
def qd(N:Nat):Nat->LB->Int->Int->Option ((Unit) ⊕ (Unit))
 |0,_,_,_=>none
 |m+1,x7,x8,x9=>zaS N x7 x8 x9 (qd N m) (fun _=>some (Sum.inl ())) (fun _=>some (Sum.inr ()))
def kM(N:Nat)(p0:(El uS2)):Option (Bool×Unit):=
 (cond (p0.1 != []) ((qd N N p0.1 ((yb p0.1:Nat):Int) 0).bind fun o17=>(ze o17 (fun a18=>(some (false,()))) (fun b19=>((qE N p0.2.1).bind fun y20=>(cond (y20.1==[]) (some (false,())) (cond (decide (31<p0.2.2.2.2.2.2.2.1)) (some (false,())) (cond (decide (65536<(if((yb p0.2.2.2.2.2.2.2.2:Nat):Int) > ((yb p0.2.2.1:Nat):Int) then((yb p0.2.2.2.2.2.2.2.2:Nat):Int) else((yb p0.2.2.1:Nat):Int)))) (some (false,())) (cond (p0.2.1==5) ((qU N ([],(0,([],p0.2.2.2))) ([],(0,([],([],(0,(0,(false,(0,[]))))))))).bind fun y21=>(some (y21.1,()))) (cond (p0.2.1==6) ((qU N ([],(0,([],(p0.2.2.2.1,(p0.2.2.2.2.1,(p0.2.2.2.2.2.1,(p0.2.2.2.2.2.2.1,(0,[])))))))) ([],(0,([],([],(0,(0,(false,(0,[]))))))))).bind fun y22=>(some (y22.1,()))) (cond (p0.2.1==7) (cond (((yb p0.2.2.2.1:Nat):Int)==0) (some (false,())) (cond (decide (p0.2.2.2.2.1<1)) (some (false,())) (cond (decide (31<p0.2.2.2.2.1)) (some (false,())) ((qU N ([],(0,(p0.2.2.1,([],(0,p0.2.2.2.2.2))))) ([],(0,([],([],(0,(0,(false,(0,[]))))))))).bind fun y23=>(some (y23.1,())))))) (cond (p0.2.1==8) (cond (((yb p0.2.2.2.1:Nat):Int)==0) (some (false,())) (cond (decide (p0.2.2.2.2.2.1<0)) (some (false,())) (cond (decide (2<p0.2.2.2.2.2.1)) (some (false,())) ((qU N ([],(0,(p0.2.2.1,([],(p0.2.2.2.2.1,(0,(false,(0,p0.2.2.2.2.2.2.2.2)))))))) ([],(0,([],([],(0,(0,(false,(0,[]))))))))).bind fun y24=>(some (y24.1,())))))) ((qU N ([],(0,p0.2.2)) ([],(0,([],([],(0,(0,(false,(0,[]))))))))).bind fun y25=>(some (y25.1,())))))))))))))) (some (false,())))
def zcd(N:Nat){R:Type}(x3:LB)(x4:Int)(rec_:LB->Int->Option R)(o0:Unit->Option R)(o1:LB->Option R):Option R:=
 (cond (decide (x4<((yb x3:Nat):Int))) (cond (inb x4 (yb x3)) ((zbP N (nth .u8 x3 (yc x4))).bind fun y7=>(cond (!y7.1) (o0 ()) (rec_ x3 (ya .i64 (x4+1))))) none) (o1 x3))
def j0(N:Nat):Nat->LB->Int->Option ((Unit) ⊕ LB)
 |0,_,_=>none
 |m+1,x3,x4=>zcd N x3 x4 (j0 N m) (fun _=>some (Sum.inl ())) (fun v0=>some (Sum.inr v0))
def zbo(N:Nat)(p0:LB):Option (Bool×Unit):=
 ((j0 N N p0 0).bind fun o12=>(ze o12 (fun a13=>(some (false,()))) (fun b14=>(some ((b14 != []),())))))
def zbq(N:Nat)(p0:(El uS2)):Option (Bool×Unit):=
 ((zbo N p0.1).bind fun y1=>(cond (!y1.1) (some (false,())) (cond (decide (p0.2.1<1)) (some (false,())) (cond (decide (8<p0.2.1)) (some (false,())) (cond (p0.2.1==5) (cond (decide (((yb p0.2.2.1:Nat):Int)<=65536)) ((zS N p0 (p0.1,(p0.2.1,(p0.2.2.1,([],(0,(0,(false,(0,[]))))))))).bind fun y2=>(some (y2.1,()))) (some (false,()))) (cond (p0.2.1==6) (cond (decide (((yb p0.2.2.1:Nat):Int)<=65536)) (cond (decide (((yb p0.2.2.2.2.2.2.2.2:Nat):Int)<=65536)) (cond (decide (p0.2.2.2.2.2.2.2.1<=31)) ((zS N p0 (p0.1,(p0.2.1,(p0.2.2.1,([],(0,(0,(false,p0.2.2.2.2.2.2.2)))))))).bind fun y3=>(some (y3.1,()))) (some (false,()))) (some (false,()))) (some (false,()))) (cond (p0.2.1==7) (cond (decide (0<((yb p0.2.2.2.1:Nat):Int))) (cond (decide (1<=p0.2.2.2.2.1)) (cond (decide (p0.2.2.2.2.1<=31)) ((zS N p0 (p0.1,(p0.2.1,([],(p0.2.2.2.1,(p0.2.2.2.2.1,(0,(false,(0,[]))))))))).bind fun y4=>(some (y4.1,()))) (some (false,()))) (some (false,()))) (some (false,()))) (cond (p0.2.1==8) (cond (decide (0<((yb p0.2.2.2.1:Nat):Int))) (cond (decide (0<=p0.2.2.2.2.2.1)) (cond (decide (p0.2.2.2.2.2.1<=2)) (cond (decide (p0.2.2.2.2.2.2.2.1<=31)) ((zS N p0 (p0.1,(p0.2.1,([],(p0.2.2.2.1,(0,(p0.2.2.2.2.2.1,(p0.2.2.2.2.2.2.1,(p0.2.2.2.2.2.2.2.1,[]))))))))).bind fun y5=>(some (y5.1,()))) (some (false,()))) (some (false,()))) (some (false,()))) (some (false,()))) ((zS N p0 (p0.1,(p0.2.1,([],([],(0,(0,(false,(0,[]))))))))).bind fun y6=>(some (y6.1,())))))))))))
def xL(N:Nat)(p0:(El uS2)):Option (Bool×Unit):=
 (cond (decide (((yb p0.1:Nat):Int)<=100)) (cond (decide (((yb p0.2.2.1:Nat):Int)<=300)) (cond (decide (((yb p0.2.2.2.1:Nat):Int)<=60)) (some ((decide (((yb p0.2.2.2.2.2.2.2.2:Nat):Int)<=500)),())) (some (false,()))) (some (false,()))) (some (false,())))
def zbl(N:Nat)(p0:LB)(p1:LB):Option (Bool×Unit):=
 (some ((p0==p1),()))
def kj(N:Nat){R:Type}(x4:LB)(x5:LB)(x6:Int)(x7:Int)(rec_:LB->LB->(Int)->(Int)->Option R)(o0:Unit->Option R)(o1:Unit->Option R):Option R:=
 (cond (decide (x7<x6)) (cond (inb x7 (yb x4)) (cond (inb x7 (yb x5)) (cond ((nth .u8 x4 (yc x7)) != (nth .u8 x5 (yc x7))) (o0 ()) (rec_ x4 x5 x6 (ya .i64 (x7+(1:Int))))) none) none) (o1 ()))
def zR(N:Nat):Nat->LB->LB->(Int)->(Int)->Option ((Unit) ⊕ (Unit))
 |0,_,_,_,_=>none
 |m+1,x4,x5,x6,x7=>kj N x4 x5 x6 x7 (zR N m) (fun _=>some (Sum.inl ())) (fun _=>some (Sum.inr ()))
def jl(N:Nat)(p0:LB)(p1:LB):Option (Bool×Unit):=
 (cond ((((yb p0):Nat):Int) != (((yb p1):Nat):Int)) (some (false,())) (yd (zR N N p0 p1 (((yb p0):Nat):Int) (0:Int)) fun o13=>(ze o13 (fun a14=>(some (false,()))) (fun b15=>(some (true,()))))))
def zgk(N:Nat){R:Type}(x13:LB)(x14:Int)(x15:Int)(x16:List LB)(rec_:LB->(Int)->(Int)->(List LB)->Option R)(o0:(List LB)->Option R):Option R:=
 (cond (decide (x15<x14)) (cond (inb x15 (yb x13)) (yd (zc5 N (nth .u8 x13 (yc x15))) fun y19=>(cond (yk ((yb x16)+1) zG) (rec_ x13 x14 (ya .i64 (x15+(1:Int))) (x16++([y19.1]:List LB))) none)) none) (o0 x16))
def wx(N:Nat):Nat->LB->(Int)->(Int)->(List LB)->Option ((List LB))
 |0,_,_,_,_=>none
 |m+1,x13,x14,x15,x16=>zgk N x13 x14 x15 x16 (wx N m) (fun v0=>some v0)
def wU(N:Nat)(p0:UInt8):Option (LB×Unit):=
 (yd (zbJ N p0) fun y1=>(yd (wx N N y1.1 (((yb y1.1):Nat):Int) (0:Int) ([]:List LB)) fun o20=>(cond ((yF (yb (Go.Lib.join o20 ([32]:LB))) zcz)&&(yF (yb o20) 140737488355328)) (cond (decide (yb ([40]:LB)+yb (Go.Lib.join o20 ([32]:LB))<4611686018427387904)) (cond (decide (yb (([40]:LB)++(Go.Lib.join o20 ([32]:LB)))+yb ([41]:LB)<4611686018427387904)) (some (((([40]:LB)++(Go.Lib.join o20 ([32]:LB)))++([41]:LB)),())) none) none) none)))
def jQ(N:Nat)(p0:LB):Option (LB×Unit):=
 (yd (zl N (ya .u32 (((yb p0):Nat):Int))) fun y1=>(cond (decide (yb ([123]:LB)+yb y1.1<4611686018427387904)) (cond (decide (yb (([123]:LB)++y1.1)+yb ([125]:LB)<4611686018427387904)) (cond (decide (yb ((([123]:LB)++y1.1)++([125]:LB))+yb ([13,10]:LB)<4611686018427387904)) (cond (((decide ((ya .i64 ((((yb (((([123]:LB)++y1.1)++([125]:LB))++([13,10]:LB))):Nat):Int)+(((yb p0):Nat):Int)))<=(ya .i64 ((((yb (((([123]:LB)++y1.1)++([125]:LB))++([13,10]:LB))):Nat):Int)+(((yb p0):Nat):Int)))))||((decide ((ya .i64 ((((yb (((([123]:LB)++y1.1)++([125]:LB))++([13,10]:LB))):Nat):Int)+(((yb p0):Nat):Int)))<=(0:Int)))||(decide ((64:Int)<(ya .i64 ((((yb (((([123]:LB)++y1.1)++([125]:LB))++([13,10]:LB))):Nat):Int)+(((yb p0):Nat):Int)))))))&&(((decide ((0:Int)<=(ya .i64 ((((yb (((([123]:LB)++y1.1)++([125]:LB))++([13,10]:LB))):Nat):Int)+(((yb p0):Nat):Int)))))&&(decide ((ya .i64 ((((yb (((([123]:LB)++y1.1)++([125]:LB))++([13,10]:LB))):Nat):Int)+(((yb p0):Nat):Int)))<=(ya .i64 ((((yb (((([123]:LB)++y1.1)++([125]:LB))++([13,10]:LB))):Nat):Int)+(((yb p0):Nat):Int))))))&&(decide ((ya .i64 ((((yb (((([123]:LB)++y1.1)++([125]:LB))++([13,10]:LB))):Nat):Int)+(((yb p0):Nat):Int)))<(549755813888:Int))))) (cond ((wo ((min (yb (((([123]:LB)++y1.1)++([125]:LB))++([13,10]:LB))) (yb (yx (yc (ya .i64 ((((yb (((([123]:LB)++y1.1)++([125]:LB))++([13,10]:LB))):Nat):Int)+(((yb p0):Nat):Int)))) (0:UInt8))):Nat):Int) (((yb (zaF (yx (yc (ya .i64 ((((yb (((([123]:LB)++y1.1)++([125]:LB))++([13,10]:LB))):Nat):Int)+(((yb p0):Nat):Int)))) (0:UInt8)) 0 (vh (yb (yx (yc (ya .i64 ((((yb (((([123]:LB)++y1.1)++([125]:LB))++([13,10]:LB))):Nat):Int)+(((yb p0):Nat):Int)))) (0:UInt8))) (((([123]:LB)++y1.1)++([125]:LB))++([13,10]:LB))))):Nat):Int) (yb (zaF (yx (yc (ya .i64 ((((yb (((([123]:LB)++y1.1)++([125]:LB))++([13,10]:LB))):Nat):Int)+(((yb p0):Nat):Int)))) (0:UInt8)) 0 (vh (yb (yx (yc (ya .i64 ((((yb (((([123]:LB)++y1.1)++([125]:LB))++([13,10]:LB))):Nat):Int)+(((yb p0):Nat):Int)))) (0:UInt8))) (((([123]:LB)++y1.1)++([125]:LB))++([13,10]:LB))))))&&true) (some ((zaF (zaF (yx (yc (ya .i64 ((((yb (((([123]:LB)++y1.1)++([125]:LB))++([13,10]:LB))):Nat):Int)+(((yb p0):Nat):Int)))) (0:UInt8)) 0 (vh (yb (yx (yc (ya .i64 ((((yb (((([123]:LB)++y1.1)++([125]:LB))++([13,10]:LB))):Nat):Int)+(((yb p0):Nat):Int)))) (0:UInt8))) (((([123]:LB)++y1.1)++([125]:LB))++([13,10]:LB)))) (yc ((min (yb (((([123]:LB)++y1.1)++([125]:LB))++([13,10]:LB))) (yb (yx (yc (ya .i64 ((((yb (((([123]:LB)++y1.1)++([125]:LB))++([13,10]:LB))):Nat):Int)+(((yb p0):Nat):Int)))) (0:UInt8))):Nat):Int)) (vh ((yc (((yb (zaF (yx (yc (ya .i64 ((((yb (((([123]:LB)++y1.1)++([125]:LB))++([13,10]:LB))):Nat):Int)+(((yb p0):Nat):Int)))) (0:UInt8)) 0 (vh (yb (yx (yc (ya .i64 ((((yb (((([123]:LB)++y1.1)++([125]:LB))++([13,10]:LB))):Nat):Int)+(((yb p0):Nat):Int)))) (0:UInt8))) (((([123]:LB)++y1.1)++([125]:LB))++([13,10]:LB))))):Nat):Int))-(yc ((min (yb (((([123]:LB)++y1.1)++([125]:LB))++([13,10]:LB))) (yb (yx (yc (ya .i64 ((((yb (((([123]:LB)++y1.1)++([125]:LB))++([13,10]:LB))):Nat):Int)+(((yb p0):Nat):Int)))) (0:UInt8))):Nat):Int))) p0)),())) none) none) none) none) none))
def zfn(N:Nat){R:Type}(x6:Int)(x7:LB)(x8:Int)(rec_:(Int)->LB->(Int)->Option R)(o0:LB->Option R):Option R:=
 (cond (decide (x8<=(16:Int))) (cond ((zbu .and .i64 x6 x8)==(0:Int)) (rec_ x6 x7 (ya .i64 ((2:Int)*x8))) (cond (x7 != ([]:LB)) (cond (decide (yb x7+yb ([32]:LB)<4611686018427387904)) (yd (zdL N x8) fun y12=>(cond (decide (yb (x7++([32]:LB))+yb y12.1<4611686018427387904)) (rec_ x6 ((x7++([32]:LB))++y12.1) (ya .i64 ((2:Int)*x8))) none)) none) (yd (zdL N x8) fun y13=>(cond (decide (yb x7+yb y13.1<4611686018427387904)) (rec_ x6 (x7++y13.1) (ya .i64 ((2:Int)*x8))) none)))) (o0 x7))
def xG(N:Nat):Nat->(Int)->LB->(Int)->Option (LB)
 |0,_,_,_=>none
 |m+1,x6,x7,x8=>zfn N x6 x7 x8 (xG N m) (fun v0=>some v0)
def xU(N:Nat)(p0:Int):Option (LB×Unit):=
 (yd (xG N N p0 ([]:LB) (1:Int)) fun o14=>(cond (decide (yb ([40]:LB)+yb o14<4611686018427387904)) (cond (decide (yb (([40]:LB)++o14)+yb ([41]:LB)<4611686018427387904)) (some (((([40]:LB)++o14)++([41]:LB)),())) none) none))
def wG(N:Nat)(p0:LB):Option (LB×Unit):=
 (yd (wE N (ya .u32 (((yb p0):Nat):Int))) fun y1=>(cond (decide (yb ([123]:LB)+yb y1.1<4611686018427387904)) (cond (decide (yb (([123]:LB)++y1.1)+yb ([125,13,10]:LB)<4611686018427387904)) (cond (yk (yb ((([123]:LB)++y1.1)++([125,13,10]:LB))) zG) (cond (yk ((yb ((([123]:LB)++y1.1)++([125,13,10]:LB)))+(yb p0)) zG) (some ((((([123]:LB)++y1.1)++([125,13,10]:LB))++p0),())) none) none) none) none))
@[reducible] def uK1:U:=(.pair (.int .i64) (.pair .str (.int .i64)))
@[reducible] def uK2:U:=(.pair .str (.pair (.int .i64) (.pair .str (.pair (.sl (.pair (.int .u32) (.int .u32))) (.pair (.int .i64) (.pair (.int .i64) (.pair .bool (.pair .u8 (.sl .u8)))))))))
@[reducible] def uK3:U:=(.pair (.sl .u8) (.pair (.int .i64) (.pair (.int .i64) (.int .i64))))
def qa(N:Nat)(p0:(El uK3)):Option ((El uK3)×Bool×Unit):=
 (cond (decide ((ya .i64 ((((yb p0.1):Nat):Int)-p0.2.1))<p0.2.2.1)) (some (p0,false,())) (some ((p0.1,((ya .i64 (p0.2.1+p0.2.2.1)),((0:Int),(ya .i64 (p0.2.1+p0.2.2.1))))),true,())))
def jd(N:Nat)(p0:(El uK3)):Option ((El uK3)×Int×Bool×Unit):=
 (cond (jf p0.2.2.2 p0.1&&true) (cond ((yF (yb (zf p0.1 (yc p0.2.2.2))) zd1)&&true) (cond (decide ((Go.Lib.index (zf p0.1 (yc p0.2.2.2)) ([(13:UInt8),(10:UInt8)]:LB))<(0:Int))) (some ((p0.1,(p0.2.1,(p0.2.2.1,(if(ya .i64 ((((yb p0.1):Nat):Int)-(1:Int))) > p0.2.2.2 then(ya .i64 ((((yb p0.1):Nat):Int)-(1:Int))) else p0.2.2.2)))),(0:Int),false,())) (some (p0,(ya .i64 (p0.2.2.2+(Go.Lib.index (zf p0.1 (yc p0.2.2.2)) ([(13:UInt8),(10:UInt8)]:LB)))),true,()))) none) none)
def kX(N:Nat)(p0:LB)(p1:LB):Option (Bool×Unit):=
 (cond (decide ((((yb p1):Nat):Int)<=(((yb p0):Nat):Int))) (cond (jf (ya .i64 ((((yb p0):Nat):Int)-(((yb p1):Nat):Int))) p0&&true) (yd (zbl N (zf p0 (yc (ya .i64 ((((yb p0):Nat):Int)-(((yb p1):Nat):Int))))) p1) fun y1=>(some (y1.1,()))) none) (some (false,())))
def wq(N:Nat)(p0:LB)(p1:LB):Option (LB×Bool×Unit):=
 (yd (kX N p0 p1) fun y1=>(cond (!y1.1) (some (p0,false,())) (cond ((wo (0:Int) (ya .i64 ((((yb p0):Nat):Int)-(((yb p1):Nat):Int))) (yb p0))&&true) (some ((slice p0 0 (yc (ya .i64 ((((yb p0):Nat):Int)-(((yb p1):Nat):Int))))),true,())) none)))
def jA(N:Nat){R:Type}(x1:LB)(x2:UInt8)(x3:Int)(rec_:LB->(UInt8)->(Int)->Option R)(o0:(Int)->Option R)(o1:Unit->Option R):Option R:=
 (cond (decide ((0:Int)<=x3)) (cond (inb x3 (yb x1)) (cond ((nth .u8 x1 (yc x3))==x2) (o0 x3) (rec_ x1 x2 (ya .i64 (x3-(1:Int))))) none) (o1 ()))
def zz(N:Nat):Nat->LB->(UInt8)->(Int)->Option (((Int)) ⊕ (Unit))
 |0,_,_,_=>none
 |m+1,x1,x2,x3=>jA N x1 x2 x3 (zz N m) (fun v0=>some (Sum.inl v0)) (fun _=>some (Sum.inr ()))
def jy(N:Nat)(p0:LB)(p1:UInt8):Option (Int×Unit):=
 (yd (zz N N p0 p1 (ya .i64 ((((yb p0):Nat):Int)-(1:Int)))) fun o9=>(ze o9 (fun a10=>(some (a10,()))) (fun b11=>(some ((-1:Int),())))))
def qW(N:Nat)(p0:LB)(p1:UInt8):Option (Int×Unit):=
 (yd (jy N p0 p1) fun y1=>(some (y1.1,())))
def wC(N:Nat)(p0:LB):Option (Int×Bool×Unit):=
 (yd (wq N p0 ([(125:UInt8)]:LB)) fun y1=>(cond (!y1.2.1) (some ((0:Int),false,())) (yd (qW N y1.1 (123:UInt8)) fun y2=>(cond (decide (y2.1<(0:Int))) (some ((0:Int),false,())) (cond (jf (ya .i64 (y2.1+(1:Int))) y1.1&&true) (yd (wT N (zf y1.1 (yc (ya .i64 (y2.1+(1:Int)))))) fun y3=>(some ((ya .i64 y3.1),y3.2.1,()))) none)))))
def zV(N:Nat)(p0:(El uK3))(p1:Int)(p2:LB)(p3:Int):Option ((El uK3)×(Int×LB)×Bool×Unit):=
 (yd (zQ N p2) fun y1=>(cond (jf p3 p0.1&&true) (yd (zQ N (zf p0.1 (yc p3))) fun y2=>(some ((y2.1,((0:Int),((0:Int),(0:Int)))),(p1,y1.1),true,()))) none))
def zJ(N:Nat)(p0:(El uK3)):Option ((El uK3)×(Int×LB)×Bool×Unit):=
 (yd (qa N p0) fun y1=>(cond (!y1.2.1) (some (y1.1,((0:Int),([]:LB)),false,())) (yd (jd N y1.1) fun y2=>(cond (!y2.2.2.1) (some (y2.1,((0:Int),([]:LB)),false,())) (cond ((wo y2.1.2.1 y2.2.1 (yb y2.1.1))&&true) (yd (wC N (slice y2.1.1 (yc y2.1.2.1) (yc y2.2.1))) fun y3=>(cond (decide ((8192:Int)<(((yb (slice y2.1.1 (yc y2.1.2.1) (yc y2.2.1))):Nat):Int))) (cond ((wo (0:Int) (8192:Int) (yb (slice y2.1.1 (yc y2.1.2.1) (yc y2.2.1))))&&true) (yd (zV N y2.1 (3:Int) (slice (slice y2.1.1 (yc y2.1.2.1) (yc y2.2.1)) 0 8192) (ya .i64 (y2.2.1+(2:Int)))) fun y4=>(some (y4.1,y4.2.1,y4.2.2.1,()))) none) (cond (!y3.2.1) (cond ((wo (0:Int) y2.2.1 (yb y2.1.1))&&true) (yd (zV N y2.1 (1:Int) (slice y2.1.1 0 (yc y2.2.1)) (ya .i64 (y2.2.1+(2:Int)))) fun y5=>(some (y5.1,y5.2.1,y5.2.2.1,()))) none) (cond (decide ((65536:Int)<y3.1)) (cond ((wo (0:Int) y2.2.1 (yb y2.1.1))&&true) (yd (zV N y2.1 (4:Int) (slice y2.1.1 0 (yc y2.2.1)) (ya .i64 (y2.2.1+(2:Int)))) fun y6=>(some (y6.1,y6.2.1,y6.2.2.1,()))) none) (some ((y2.1.1,((ya .i64 (y2.2.1+(2:Int))),(y3.1,y2.1.2.2.2))),((2:Int),([]:LB)),true,())))))) none)))))
def jc(N:Nat)(p0:(El uK3)):Option ((El uK3)×Int×Unit):=
 (some (p0,(((yb p0.1):Nat):Int),()))
def zbK(N:Nat){R:Type}(x12:LB)(x13:Int)(x14:Int)(x15:Int)(x16:List (Int×LB))(rec_:LB->(Int)->(Int)->(Int)->(List (Int×LB))->Option R)(o0:LB->(Int)->(Int)->(Int)->(List (Int×LB))->Option R):Option R:=
 (yd (zJ N (x12,(x13,(x14,x15)))) fun y19=>(cond (!y19.2.2.1) (o0 y19.1.1 y19.1.2.1 y19.1.2.2.1 y19.1.2.2.2 x16) (cond (yk ((yb x16)+1) zG) (rec_ y19.1.1 y19.1.2.1 y19.1.2.2.1 y19.1.2.2.2 (x16++([y19.2.1]:List (Int×LB)))) none)))
def qx(N:Nat):Nat->LB->(Int)->(Int)->(Int)->(List (Int×LB))->Option (LB×(Int)×(Int)×(Int)×(List (Int×LB)))
 |0,_,_,_,_,_=>none
 |m+1,x12,x13,x14,x15,x16=>zbK N x12 x13 x14 x15 x16 (qx N m) (fun v0 v1 v2 v3 v4=>some (v0,v1,v2,v3,v4))
def qi(N:Nat)(p0:LB):Option ((List (Int×LB))×Int×Unit):=
 (cond (yk (yb p0) zG) (yd (zJ N (p0,((0:Int),((0:Int),(0:Int))))) fun y2=>(cond (!y2.2.2.1) (yd (jc N y2.1) fun y3=>(some (([]:List (Int×LB)),y3.2.1,()))) (yd (qx N N y2.1.1 y2.1.2.1 y2.1.2.2.1 y2.1.2.2.2 ([y2.2.1]:List (Int×LB))) fun o20=>(yd (jc N (o20.1,(o20.2.1,(o20.2.2.1,o20.2.2.2.1)))) fun y21=>(some (o20.2.2.2.2,y21.2.1,())))))) none)
def zdv(N:Nat){R:Type}(x1:LB)(x2:Int)(rec_:LB->(Int)->Option R)(o0:(Int)->Option R)(o1:Unit->Option R):Option R:=
 (cond (decide ((ya .i64 (x2+(1:Int)))<(((yb x1):Nat):Int))) (cond (inb x2 (yb x1)) (cond ((nth .u8 x1 (yc x2))==(13:UInt8)) (cond (inb (ya .i64 (x2+(1:Int))) (yb x1)) (cond ((nth .u8 x1 (yc (ya .i64 (x2+(1:Int)))))==(10:UInt8)) (o0 x2) (rec_ x1 (ya .i64 (x2+(1:Int))))) none) (rec_ x1 (ya .i64 (x2+(1:Int))))) none) (o1 ()))
def ku(N:Nat):Nat->LB->(Int)->Option (((Int)) ⊕ (Unit))
 |0,_,_=>none
 |m+1,x1,x2=>zdv N x1 x2 (ku N m) (fun v0=>some (Sum.inl v0)) (fun _=>some (Sum.inr ()))
def zc9(N:Nat)(p0:LB)(p1:Int):Option (Int×Unit):=
 (yd (ku N N p0 p1) fun o8=>(ze o8 (fun a9=>(some (a9,()))) (fun b10=>(some ((-1:Int),())))))
def zas(N:Nat){R:Type}(x1:LB)(x2:Int)(x3:Int)(rec_:LB->(Int)->(Int)->Option R)(o0:LB->(Int)->(Int)->Option R):Option R:=
 (cond (decide ((0:Int)<x3)) (cond (inb (ya .i64 (x3-(1:Int))) (yb x1)) (cond (decide ((48:UInt8)<=(nth .u8 x1 (yc (ya .i64 (x3-(1:Int))))))) (cond (inb (ya .i64 (x3-(1:Int))) (yb x1)) (cond (decide ((nth .u8 x1 (yc (ya .i64 (x3-(1:Int)))))<=(57:UInt8))) (rec_ x1 x2 (ya .i64 (x3-(1:Int)))) (o0 x1 x2 x3)) none) (o0 x1 x2 x3)) none) (o0 x1 x2 x3))
def qJ(N:Nat):Nat->LB->(Int)->(Int)->Option (LB×(Int)×(Int))
 |0,_,_,_=>none
 |m+1,x1,x2,x3=>zas N x1 x2 x3 (qJ N m) (fun v0 v1 v2=>some (v0,v1,v2))
def kZ(N:Nat)(p0:LB):Option (Int×Bool×Unit):=
 (cond (decide ((ya .i64 ((((yb p0):Nat):Int)-(1:Int)))<(0:Int))) (some ((0:Int),false,())) (cond (inb (ya .i64 ((((yb p0):Nat):Int)-(1:Int))) (yb p0)) (cond ((nth .u8 p0 (yc (ya .i64 ((((yb p0):Nat):Int)-(1:Int))))) != (125:UInt8)) (some ((0:Int),false,())) (yd (qJ N N p0 (ya .i64 ((((yb p0):Nat):Int)-(1:Int))) (ya .i64 ((((yb p0):Nat):Int)-(1:Int)))) fun o5=>(cond ((wo o5.2.2 o5.2.1 (yb o5.1))&&true) (yd (zaG N (slice o5.1 (yc o5.2.2) (yc o5.2.1))) fun y6=>(cond (!y6.2.1) (some ((0:Int),false,())) (cond (o5.2.2==(0:Int)) (some ((0:Int),false,())) (cond (inb (ya .i64 (o5.2.2-(1:Int))) (yb o5.1)) (cond ((nth .u8 o5.1 (yc (ya .i64 (o5.2.2-(1:Int))))) != (123:UInt8)) (some ((0:Int),false,())) (some ((ya .i64 y6.1),true,()))) none)))) none))) none))
def zaV(N:Nat){R:Type}(x12:LB)(x13:Int)(x14:List (Int×LB))(rec_:LB->(Int)->(List (Int×LB))->Option R)(o0:(Int)->(List (Int×LB))->Option R)(o1:(List (Int×LB))->Option R):Option R:=
 (cond (decide (x13<=(((yb x12):Nat):Int))) (yd (zc9 N x12 x13) fun y18=>(cond (decide (y18.1<(0:Int))) (o0 (-1:Int) x14) (cond ((wo x13 y18.1 (yb x12))&&true) (cond (decide ((8192:Int)<(((yb (slice x12 (yc x13) (yc y18.1))):Nat):Int))) (cond ((wo (0:Int) (8192:Int) (yb (slice x12 (yc x13) (yc y18.1))))&&true) (cond (yk (0+(yb (slice (slice x12 (yc x13) (yc y18.1)) 0 8192))) zG) (cond (yk ((yb x14)+1) zG) (o0 (ya .i64 (y18.1+(2:Int))) (x14++([((3:Int),(([]:LB)++(slice (slice x12 (yc x13) (yc y18.1)) 0 8192)))]:List (Int×LB)))) none) none) none) (yd (kZ N (slice x12 (yc x13) (yc y18.1))) fun y19=>(cond (!y19.2.1) (cond ((wo (0:Int) y18.1 (yb x12))&&true) (cond (yk (0+(yb (slice x12 0 (yc y18.1)))) zG) (cond (yk ((yb x14)+1) zG) (o0 (ya .i64 (y18.1+(2:Int))) (x14++([((1:Int),(([]:LB)++(slice x12 0 (yc y18.1))))]:List (Int×LB)))) none) none) none) (cond (decide ((65536:Int)<y19.1)) (cond ((wo (0:Int) y18.1 (yb x12))&&true) (cond (yk (0+(yb (slice x12 0 (yc y18.1)))) zG) (cond (yk ((yb x14)+1) zG) (o0 (ya .i64 (y18.1+(2:Int))) (x14++([((4:Int),(([]:LB)++(slice x12 0 (yc y18.1))))]:List (Int×LB)))) none) none) none) (cond (yk ((yb x14)+1) zG) (rec_ x12 (ya .i64 ((ya .i64 (y18.1+(2:Int)))+y19.1)) (x14++([((2:Int),([]:LB))]:List (Int×LB)))) none))))) none))) (o1 x14))
def qT(N:Nat):Nat->LB->(Int)->(List (Int×LB))->Option (((Int)×(List (Int×LB))) ⊕ ((List (Int×LB))))
 |0,_,_,_=>none
 |m+1,x12,x13,x14=>zaV N x12 x13 x14 (qT N m) (fun v0 v1=>some (Sum.inl (v0,v1))) (fun v0=>some (Sum.inr v0))
def zad(N:Nat)(p0:LB):Option ((List (Int×LB))×Int×Unit):=
 (yd (qT N N p0 (0:Int) ([]:List (Int×LB))) fun o24=>(ze o24 (fun a25=>(some (a25.2,a25.1,()))) (fun b26=>(some (b26,(-1:Int),())))))
def zbU(N:Nat){R:Type}(x7:LB)(x8:List (Int×LB))(rec_:LB->(List (Int×LB))->Option R)(o0:(Int)->(List (Int×LB))->Option R):Option R:=
 (yd (zad N x7) fun y11=>(cond (yk ((yb x8)+(yb y11.1)) zG) (cond (decide (y11.2.1<(0:Int))) (o0 (((yb x7):Nat):Int) (x8++y11.1)) (cond (jf y11.2.1 x7&&true) (rec_ (zf x7 (yc y11.2.1)) (x8++y11.1)) none)) none))
def jL(N:Nat):Nat->LB->(List (Int×LB))->Option ((Int)×(List (Int×LB)))
 |0,_,_=>none
 |m+1,x7,x8=>zbU N x7 x8 (jL N m) (fun v0 v1=>some (v0,v1))
def zbp(N:Nat)(p0:LB):Option ((List (Int×LB))×Int×Unit):=
 (yd (jL N N p0 ([]:List (Int×LB))) fun o12=>(some (o12.2,o12.1,())))
def zbI(N:Nat){R:Type}(x13:List (Int×LB))(x14:Int)(x15:Int)(x16:List (El uK2))(rec_:(List (Int×LB))->(Int)->(Int)->(List (El uK2))->Option R)(o0:(List (El uK2))->Option R)(o1:(List (El uK2))->Option R):Option R:=
 (cond (decide (x15<x14)) (cond (inb x15 (yb x13)) (cond ((nth (.pair (.int .i64) (.sl .u8)) x13 (yc x15)).1==(2:Int)) (rec_ x13 x14 (ya .i64 (x15+(1:Int))) x16) (yd (wv N (nth (.pair (.int .i64) (.sl .u8)) x13 (yc x15)).2) fun y19=>(cond (!y19.2.1) (o0 x16) (cond ((nth (.pair (.int .i64) (.sl .u8)) x13 (yc x15)).1 != (1:Int)) (o0 x16) (cond (yk ((yb x16)+1) zG) (rec_ x13 x14 (ya .i64 (x15+(1:Int))) (x16++([y19.1]:List (El uK2)))) none))))) none) (o1 x16))
def jH(N:Nat):Nat->(List (Int×LB))->(Int)->(Int)->(List (El uK2))->Option (((List (El uK2))) ⊕ ((List (El uK2))))
 |0,_,_,_,_=>none
 |m+1,x13,x14,x15,x16=>zbI N x13 x14 x15 x16 (jH N m) (fun v0=>some (Sum.inl v0)) (fun v0=>some (Sum.inr v0))
def zbn(N:Nat)(p0:LB):Option ((List (El uK2))×Bool×Unit):=
 (yd (qi N p0) fun y1=>(cond (decide ((0:Int)<y1.2.1)) (some (([]:List (El uK2)),false,())) (yd (jH N N y1.1 (((yb y1.1):Nat):Int) (0:Int) ([]:List (El uK2))) fun o24=>(ze o24 (fun a25=>(some (([]:List (El uK2)),false,()))) (fun b26=>(some (b26,true,())))))))
def zcG(N:Nat){R:Type}(x4:List (El uK2))(x5:List (El uK2))(x6:Int)(rec_:(List (El uK2))->(List (El uK2))->(Int)->Option R)(o0:Unit->Option R)(o1:Unit->Option R):Option R:=
 (cond (decide (x6<(((yb x4):Nat):Int))) (cond (inb x6 (yb x4)) (cond (inb x6 (yb x5)) (yd (zS N (nth uK2 x4 (yc x6)) (nth uK2 x5 (yc x6))) fun y9=>(cond (!y9.1) (o0 ()) (rec_ x4 x5 (ya .i64 (x6+(1:Int)))))) none) none) (o1 ()))
def wH(N:Nat):Nat->(List (El uK2))->(List (El uK2))->(Int)->Option ((Unit) ⊕ (Unit))
 |0,_,_,_=>none
 |m+1,x4,x5,x6=>zcG N x4 x5 x6 (wH N m) (fun _=>some (Sum.inl ())) (fun _=>some (Sum.inr ()))
def zch(N:Nat)(p0:(List (El uK2)))(p1:(List (El uK2))):Option (Bool×Unit):=
 (cond ((((yb p0):Nat):Int) != (((yb p1):Nat):Int)) (some (false,())) (yd (wH N N p0 p1 (0:Int)) fun o14=>(ze o14 (fun a15=>(some (false,()))) (fun b16=>(some (true,()))))))
def za8(N:Nat){R:Type}(x12:LB)(x13:Int)(x14:Int)(x15:LB)(rec_:LB->(Int)->(Int)->LB->Option R)(o0:LB->Option R)(o1:LB->Option R):Option R:=
 (cond (decide (x14<x13)) (cond (inb x14 (yb x12)) (yd (kI N (nth .u8 x12 (yc x14))) fun y18=>(cond (!y18.1) (o0 x15) (cond ((nth .u8 x12 (yc x14))==(34:UInt8)) (cond (yk ((yb x15)+1) zG) (cond (yk ((yb (x15++([(92:UInt8)]:LB)))+1) zG) (rec_ x12 x13 (ya .i64 (x14+(1:Int))) ((x15++([(92:UInt8)]:LB))++([(nth .u8 x12 (yc x14))]:LB))) none) none) (cond ((nth .u8 x12 (yc x14))==(92:UInt8)) (cond (yk ((yb x15)+1) zG) (cond (yk ((yb (x15++([(92:UInt8)]:LB)))+1) zG) (rec_ x12 x13 (ya .i64 (x14+(1:Int))) ((x15++([(92:UInt8)]:LB))++([(nth .u8 x12 (yc x14))]:LB))) none) none) (cond (yk ((yb x15)+1) zG) (rec_ x12 x13 (ya .i64 (x14+(1:Int))) (x15++([(nth .u8 x12 (yc x14))]:LB))) none))))) none) (o1 x15))
def qn(N:Nat):Nat->LB->(Int)->(Int)->LB->Option ((LB) ⊕ (LB))
 |0,_,_,_,_=>none
 |m+1,x12,x13,x14,x15=>za8 N x12 x13 x14 x15 (qn N m) (fun v0=>some (Sum.inl v0)) (fun v0=>some (Sum.inr v0))
def xy(N:Nat)(p0:LB):Option (LB×Bool×Unit):=
 (yd (qn N N p0 (((yb p0):Nat):Int) (0:Int) ([(34:UInt8)]:LB)) fun o23=>(ze o23 (fun a24=>(some (([]:LB),false,()))) (fun b25=>(cond (yk ((yb b25)+1) zG) (cond (yk 0 (yb (b25++([(34:UInt8)]:LB)))) (cond (decide ((((yb (b25++([(34:UInt8)]:LB))):Nat):Int)=(((yb (b25++([(34:UInt8)]:LB))):Nat):Int))&&(yk 0 (yb (b25++([(34:UInt8)]:LB)))&&yk (yb (b25++([(34:UInt8)]:LB))) zG)) (some ((b25++([(34:UInt8)]:LB)),true,())) none) none) none))))
def xR(N:Nat)(p0:LB):Option (LB×Unit):=
 (yd (xy N p0) fun y1=>(cond y1.2.1 (cond (yk (yb y1.1) zG) (some (y1.1,())) none) (yd (jQ N p0) fun y2=>(some (y2.1,())))))
def zaq(N:Nat){R:Type}(x7:LB)(x8:Int)(x9:Int)(rec_:LB->(Int)->(Int)->Option R)(o0:Unit->Option R)(o1:Unit->Option R):Option R:=
 (cond (decide (x9<x8)) (cond (inb x9 (yb x7)) (yd (zau N (nth .u8 x7 (yc x9))) fun y12=>(cond (!y12.1) (o0 ()) (rec_ x7 x8 (ya .i64 (x9+(1:Int)))))) none) (o1 ()))
def zZ(N:Nat):Nat->LB->(Int)->(Int)->Option ((Unit) ⊕ (Unit))
 |0,_,_,_=>none
 |m+1,x7,x8,x9=>zaq N x7 x8 x9 (zZ N m) (fun _=>some (Sum.inl ())) (fun _=>some (Sum.inr ()))
def jZ(N:Nat)(p0:LB):Option (LB×Unit):=
 (cond (p0 != ([]:LB)) (yd (zZ N N p0 (((yb p0):Nat):Int) (0:Int)) fun o17=>(ze o17 (fun a18=>(cond (yk (yb p0) zG) (yd (xR N p0) fun y20=>(some (y20.1,()))) none)) (fun b19=>(some (p0,()))))) (cond (yk (yb p0) zG) (yd (xR N p0) fun y21=>(some (y21.1,()))) none))
def k8(N:Nat)(p0:Int):Option (LB×Unit):=
 (cond (p0==(0:Int)) (some (([42]:LB),())) (yd (zl N p0) fun y1=>(some (y1.1,()))))
def zbe(N:Nat){R:Type}(x15:List (Int×Int))(x16:Int)(x17:Int)(x18:List LB)(rec_:(List (Int×Int))->(Int)->(Int)->(List LB)->Option R)(o0:(List LB)->Option R):Option R:=
 (cond (decide (x17<x16)) (cond (inb x17 (yb x15)) (yd (k8 N (nth (.pair (.int .u32) (.int .u32)) x15 (yc x17)).1) fun y22=>(cond (!(((nth (.pair (.int .u32) (.int .u32)) x15 (yc x17)).1==(nth (.pair (.int .u32) (.int .u32)) x15 (yc x17)).1)&&(((nth (.pair (.int .u32) (.int .u32)) x15 (yc x17)).2==(nth (.pair (.int .u32) (.int .u32)) x15 (yc x17)).1)&&true))) (yd (k8 N (nth (.pair (.int .u32) (.int .u32)) x15 (yc x17)).2) fun y23=>(cond (decide (yb ([58]:LB)+yb y23.1<4611686018427387904)) (cond (decide (yb y22.1+yb (([58]:LB)++y23.1)<4611686018427387904)) (cond (yk ((yb x18)+1) zG) (rec_ x15 x16 (ya .i64 (x17+(1:Int))) (x18++([(y22.1++(([58]:LB)++y23.1))]:List LB))) none) none) none)) (cond (yk ((yb x18)+1) zG) (rec_ x15 x16 (ya .i64 (x17+(1:Int))) (x18++([y22.1]:List LB))) none))) none) (o0 x18))
def qo(N:Nat):Nat->(List (Int×Int))->(Int)->(Int)->(List LB)->Option ((List LB))
 |0,_,_,_,_=>none
 |m+1,x15,x16,x17,x18=>zbe N x15 x16 x17 x18 (qo N m) (fun v0=>some v0)
def wm(N:Nat)(p0:(List (Int×Int))):Option (LB×Unit):=
 (yd (qo N N p0 (((yb p0):Nat):Int) (0:Int) ([]:List LB)) fun o24=>(cond ((yF (yb (Go.Lib.join o24 ([44]:LB))) zcz)&&(yF (yb o24) 140737488355328)) (some ((Go.Lib.join o24 ([44]:LB)),())) none))
def zew(N:Nat){R:Type}(x13:Int)(x14:Int)(x15:List LB)(x16:List LB)(rec_:(Int)->(Int)->(List LB)->(List LB)->Option R)(o0:(List LB)->(List LB)->Option R):Option R:=
 (cond (decide (x14<(5:Int))) (cond (inb x14 (yb x15)) (yd (jF N (nth .str x15 (yc x14))) fun y19=>(cond ((zbu .and .i64 x13 y19.1) != (0:Int)) (cond (yk ((yb x16)+1) zG) (rec_ x13 (ya .i64 (x14+(1:Int))) x15 (x16++([(nth .str x15 (yc x14))]:List LB))) none) (rec_ x13 (ya .i64 (x14+(1:Int))) x15 x16))) none) (o0 x15 x16))
def ji(N:Nat):Nat->(Int)->(Int)->(List LB)->(List LB)->Option ((List LB)×(List LB))
 |0,_,_,_,_=>none
 |m+1,x13,x14,x15,x16=>zew N x13 x14 x15 x16 (ji N m) (fun v0 v1=>some (v0,v1))
def wi(N:Nat)(p0:Int):Option (LB×Unit):=
 (yd (ji N N p0 (0:Int) ([([70,76,65,71,83]:LB),([85,73,68]:LB),([82,70,67,56,50,50,46,83,73,90,69]:LB),([66,79,68,89,46,80,69,69,75,91,93]:LB),([66,79,68,89,91,93]:LB)]:List LB) ([]:List LB)) fun o20=>(cond ((yF (yb (Go.Lib.join o20.2 ([32]:LB))) zcz)&&(yF (yb o20.2) 140737488355328)) (cond (decide (yb ([40]:LB)+yb (Go.Lib.join o20.2 ([32]:LB))<4611686018427387904)) (cond (decide (yb (([40]:LB)++(Go.Lib.join o20.2 ([32]:LB)))+yb ([41]:LB)<4611686018427387904)) (some (((([40]:LB)++(Go.Lib.join o20.2 ([32]:LB)))++([41]:LB)),())) none) none) none))
def qD(N:Nat)(p0:(El uK2)):Option (LB×Bool×Unit):=
 (yd (kM N p0) fun y1=>(cond (!y1.1) (some (([]:LB),false,())) (yd (qE N p0.2.1) fun y2=>(cond (p0.2.1==(5:Int)) (yd (jZ N p0.2.2.1) fun y3=>(cond ((yF (yb (Go.Lib.join ([p0.1,y2.1,y3.1]:List LB) ([32]:LB))) zcz)&&true) (cond (decide (yb (Go.Lib.join ([p0.1,y2.1,y3.1]:List LB) ([32]:LB))+yb ([13,10]:LB)<4611686018427387904)) (cond (yk (yb ((Go.Lib.join ([p0.1,y2.1,y3.1]:List LB) ([32]:LB))++([13,10]:LB))) zG) (yd (qi N ((Go.Lib.join ([p0.1,y2.1,y3.1]:List LB) ([32]:LB))++([13,10]:LB))) fun y4=>(cond (decide ((0:Int)<y4.2.1)) (some (([]:LB),false,())) (cond ((((yb y4.1):Nat):Int)==(0:Int)) (some (([]:LB),false,())) (cond (inb (ya .i64 ((((yb y4.1):Nat):Int)-(1:Int))) (yb y4.1)) (cond ((nth (.pair (.int .i64) (.sl .u8)) y4.1 (yc (ya .i64 ((((yb y4.1):Nat):Int)-(1:Int))))).1 != (1:Int)) (some (([]:LB),false,())) (cond ((nth (.pair (.int .i64) (.sl .u8)) y4.1 (yc (ya .i64 ((((yb y4.1):Nat):Int)-(1:Int))))).2 != (Go.Lib.join ([p0.1,y2.1,y3.1]:List LB) ([32]:LB))) (some (([]:LB),false,())) (some (((Go.Lib.join ([p0.1,y2.1,y3.1]:List LB) ([32]:LB))++([13,10]:LB)),true,())))) none)))) none) none) none)) (cond (p0.2.1==(6:Int)) (yd (jZ N p0.2.2.1) fun y5=>(cond (p0.2.2.2.2.2.2.2.1 != (0:UInt8)) (yd (wU N p0.2.2.2.2.2.2.2.1) fun y6=>(yd (jQ N p0.2.2.2.2.2.2.2.2) fun y7=>(cond ((yF (yb (Go.Lib.join ([p0.1,y2.1,y5.1,y6.1,y7.1]:List LB) ([32]:LB))) zcz)&&true) (cond (decide (yb (Go.Lib.join ([p0.1,y2.1,y5.1,y6.1,y7.1]:List LB) ([32]:LB))+yb ([13,10]:LB)<4611686018427387904)) (cond (yk (yb ((Go.Lib.join ([p0.1,y2.1,y5.1,y6.1,y7.1]:List LB) ([32]:LB))++([13,10]:LB))) zG) (yd (qi N ((Go.Lib.join ([p0.1,y2.1,y5.1,y6.1,y7.1]:List LB) ([32]:LB))++([13,10]:LB))) fun y8=>(cond (decide ((0:Int)<y8.2.1)) (some (([]:LB),false,())) (cond ((((yb y8.1):Nat):Int)==(0:Int)) (some (([]:LB),false,())) (cond (inb (ya .i64 ((((yb y8.1):Nat):Int)-(1:Int))) (yb y8.1)) (cond ((nth (.pair (.int .i64) (.sl .u8)) y8.1 (yc (ya .i64 ((((yb y8.1):Nat):Int)-(1:Int))))).1 != (1:Int)) (some (([]:LB),false,())) (cond ((nth (.pair (.int .i64) (.sl .u8)) y8.1 (yc (ya .i64 ((((yb y8.1):Nat):Int)-(1:Int))))).2 != (Go.Lib.join ([p0.1,y2.1,y5.1,y6.1,y7.1]:List LB) ([32]:LB))) (some (([]:LB),false,())) (some (((Go.Lib.join ([p0.1,y2.1,y5.1,y6.1,y7.1]:List LB) ([32]:LB))++([13,10]:LB)),true,())))) none)))) none) none) none))) (yd (jQ N p0.2.2.2.2.2.2.2.2) fun y9=>(cond ((yF (yb (Go.Lib.join ([p0.1,y2.1,y5.1,y9.1]:List LB) ([32]:LB))) zcz)&&true) (cond (decide (yb (Go.Lib.join ([p0.1,y2.1,y5.1,y9.1]:List LB) ([32]:LB))+yb ([13,10]:LB)<4611686018427387904)) (cond (yk (yb ((Go.Lib.join ([p0.1,y2.1,y5.1,y9.1]:List LB) ([32]:LB))++([13,10]:LB))) zG) (yd (qi N ((Go.Lib.join ([p0.1,y2.1,y5.1,y9.1]:List LB) ([32]:LB))++([13,10]:LB))) fun y10=>(cond (decide ((0:Int)<y10.2.1)) (some (([]:LB),false,())) (cond ((((yb y10.1):Nat):Int)==(0:Int)) (some (([]:LB),false,())) (cond (inb (ya .i64 ((((yb y10.1):Nat):Int)-(1:Int))) (yb y10.1)) (cond ((nth (.pair (.int .i64) (.sl .u8)) y10.1 (yc (ya .i64 ((((yb y10.1):Nat):Int)-(1:Int))))).1 != (1:Int)) (some (([]:LB),false,())) (cond ((nth (.pair (.int .i64) (.sl .u8)) y10.1 (yc (ya .i64 ((((yb y10.1):Nat):Int)-(1:Int))))).2 != (Go.Lib.join ([p0.1,y2.1,y5.1,y9.1]:List LB) ([32]:LB))) (some (([]:LB),false,())) (some (((Go.Lib.join ([p0.1,y2.1,y5.1,y9.1]:List LB) ([32]:LB))++([13,10]:LB)),true,())))) none)))) none) none) none)))) (cond (p0.2.1==(7:Int)) (yd (wm N p0.2.2.2.1) fun y11=>(yd (wi N p0.2.2.2.2.1) fun y12=>(cond ((yF (yb (Go.Lib.join ([p0.1,y2.1,y11.1,y12.1]:List LB) ([32]:LB))) zcz)&&true) (cond (decide (yb (Go.Lib.join ([p0.1,y2.1,y11.1,y12.1]:List LB) ([32]:LB))+yb ([13,10]:LB)<4611686018427387904)) (cond (yk (yb ((Go.Lib.join ([p0.1,y2.1,y11.1,y12.1]:List LB) ([32]:LB))++([13,10]:LB))) zG) (yd (qi N ((Go.Lib.join ([p0.1,y2.1,y11.1,y12.1]:List LB) ([32]:LB))++([13,10]:LB))) fun y13=>(cond (decide ((0:Int)<y13.2.1)) (some (([]:LB),false,())) (cond ((((yb y13.1):Nat):Int)==(0:Int)) (some (([]:LB),false,())) (cond (inb (ya .i64 ((((yb y13.1):Nat):Int)-(1:Int))) (yb y13.1)) (cond ((nth (.pair (.int .i64) (.sl .u8)) y13.1 (yc (ya .i64 ((((yb y13.1):Nat):Int)-(1:Int))))).1 != (1:Int)) (some (([]:LB),false,())) (cond ((nth (.pair (.int .i64) (.sl .u8)) y13.1 (yc (ya .i64 ((((yb y13.1):Nat):Int)-(1:Int))))).2 != (Go.Lib.join ([p0.1,y2.1,y11.1,y12.1]:List LB) ([32]:LB))) (some (([]:LB),false,())) (some (((Go.Lib.join ([p0.1,y2.1,y11.1,y12.1]:List LB) ([32]:LB))++([13,10]:LB)),true,())))) none)))) none) none) none))) (cond (p0.2.1==(8:Int)) (cond (inb p0.2.2.2.2.2.1 3) (cond p0.2.2.2.2.2.2.1 (cond (decide (yb (nth .str ([([70,76,65,71,83]:LB),([43,70,76,65,71,83]:LB),([45,70,76,65,71,83]:LB)]:List LB) (yc p0.2.2.2.2.2.1))+yb ([46,83,73,76,69,78,84]:LB)<4611686018427387904)) (yd (wm N p0.2.2.2.1) fun y14=>(yd (wU N p0.2.2.2.2.2.2.2.1) fun y15=>(cond ((yF (yb (Go.Lib.join ([p0.1,y2.1,y14.1,((nth .str ([([70,76,65,71,83]:LB),([43,70,76,65,71,83]:LB),([45,70,76,65,71,83]:LB)]:List LB) (yc p0.2.2.2.2.2.1))++([46,83,73,76,69,78,84]:LB)),y15.1]:List LB) ([32]:LB))) zcz)&&true) (cond (decide (yb (Go.Lib.join ([p0.1,y2.1,y14.1,((nth .str ([([70,76,65,71,83]:LB),([43,70,76,65,71,83]:LB),([45,70,76,65,71,83]:LB)]:List LB) (yc p0.2.2.2.2.2.1))++([46,83,73,76,69,78,84]:LB)),y15.1]:List LB) ([32]:LB))+yb ([13,10]:LB)<4611686018427387904)) (cond (yk (yb ((Go.Lib.join ([p0.1,y2.1,y14.1,((nth .str ([([70,76,65,71,83]:LB),([43,70,76,65,71,83]:LB),([45,70,76,65,71,83]:LB)]:List LB) (yc p0.2.2.2.2.2.1))++([46,83,73,76,69,78,84]:LB)),y15.1]:List LB) ([32]:LB))++([13,10]:LB))) zG) (yd (qi N ((Go.Lib.join ([p0.1,y2.1,y14.1,((nth .str ([([70,76,65,71,83]:LB),([43,70,76,65,71,83]:LB),([45,70,76,65,71,83]:LB)]:List LB) (yc p0.2.2.2.2.2.1))++([46,83,73,76,69,78,84]:LB)),y15.1]:List LB) ([32]:LB))++([13,10]:LB))) fun y16=>(cond (decide ((0:Int)<y16.2.1)) (some (([]:LB),false,())) (cond ((((yb y16.1):Nat):Int)==(0:Int)) (some (([]:LB),false,())) (cond (inb (ya .i64 ((((yb y16.1):Nat):Int)-(1:Int))) (yb y16.1)) (cond ((nth (.pair (.int .i64) (.sl .u8)) y16.1 (yc (ya .i64 ((((yb y16.1):Nat):Int)-(1:Int))))).1 != (1:Int)) (some (([]:LB),false,())) (cond ((nth (.pair (.int .i64) (.sl .u8)) y16.1 (yc (ya .i64 ((((yb y16.1):Nat):Int)-(1:Int))))).2 != (Go.Lib.join ([p0.1,y2.1,y14.1,((nth .str ([([70,76,65,71,83]:LB),([43,70,76,65,71,83]:LB),([45,70,76,65,71,83]:LB)]:List LB) (yc p0.2.2.2.2.2.1))++([46,83,73,76,69,78,84]:LB)),y15.1]:List LB) ([32]:LB))) (some (([]:LB),false,())) (some (((Go.Lib.join ([p0.1,y2.1,y14.1,((nth .str ([([70,76,65,71,83]:LB),([43,70,76,65,71,83]:LB),([45,70,76,65,71,83]:LB)]:List LB) (yc p0.2.2.2.2.2.1))++([46,83,73,76,69,78,84]:LB)),y15.1]:List LB) ([32]:LB))++([13,10]:LB)),true,())))) none)))) none) none) none))) none) (yd (wm N p0.2.2.2.1) fun y17=>(yd (wU N p0.2.2.2.2.2.2.2.1) fun y18=>(cond ((yF (yb (Go.Lib.join ([p0.1,y2.1,y17.1,(nth .str ([([70,76,65,71,83]:LB),([43,70,76,65,71,83]:LB),([45,70,76,65,71,83]:LB)]:List LB) (yc p0.2.2.2.2.2.1)),y18.1]:List LB) ([32]:LB))) zcz)&&true) (cond (decide (yb (Go.Lib.join ([p0.1,y2.1,y17.1,(nth .str ([([70,76,65,71,83]:LB),([43,70,76,65,71,83]:LB),([45,70,76,65,71,83]:LB)]:List LB) (yc p0.2.2.2.2.2.1)),y18.1]:List LB) ([32]:LB))+yb ([13,10]:LB)<4611686018427387904)) (cond (yk (yb ((Go.Lib.join ([p0.1,y2.1,y17.1,(nth .str ([([70,76,65,71,83]:LB),([43,70,76,65,71,83]:LB),([45,70,76,65,71,83]:LB)]:List LB) (yc p0.2.2.2.2.2.1)),y18.1]:List LB) ([32]:LB))++([13,10]:LB))) zG) (yd (qi N ((Go.Lib.join ([p0.1,y2.1,y17.1,(nth .str ([([70,76,65,71,83]:LB),([43,70,76,65,71,83]:LB),([45,70,76,65,71,83]:LB)]:List LB) (yc p0.2.2.2.2.2.1)),y18.1]:List LB) ([32]:LB))++([13,10]:LB))) fun y19=>(cond (decide ((0:Int)<y19.2.1)) (some (([]:LB),false,())) (cond ((((yb y19.1):Nat):Int)==(0:Int)) (some (([]:LB),false,())) (cond (inb (ya .i64 ((((yb y19.1):Nat):Int)-(1:Int))) (yb y19.1)) (cond ((nth (.pair (.int .i64) (.sl .u8)) y19.1 (yc (ya .i64 ((((yb y19.1):Nat):Int)-(1:Int))))).1 != (1:Int)) (some (([]:LB),false,())) (cond ((nth (.pair (.int .i64) (.sl .u8)) y19.1 (yc (ya .i64 ((((yb y19.1):Nat):Int)-(1:Int))))).2 != (Go.Lib.join ([p0.1,y2.1,y17.1,(nth .str ([([70,76,65,71,83]:LB),([43,70,76,65,71,83]:LB),([45,70,76,65,71,83]:LB)]:List LB) (yc p0.2.2.2.2.2.1)),y18.1]:List LB) ([32]:LB))) (some (([]:LB),false,())) (some (((Go.Lib.join ([p0.1,y2.1,y17.1,(nth .str ([([70,76,65,71,83]:LB),([43,70,76,65,71,83]:LB),([45,70,76,65,71,83]:LB)]:List LB) (yc p0.2.2.2.2.2.1)),y18.1]:List LB) ([32]:LB))++([13,10]:LB)),true,())))) none)))) none) none) none)))) none) (cond ((yF (yb (Go.Lib.join ([p0.1,y2.1]:List LB) ([32]:LB))) zcz)&&true) (cond (decide (yb (Go.Lib.join ([p0.1,y2.1]:List LB) ([32]:LB))+yb ([13,10]:LB)<4611686018427387904)) (cond (yk (yb ((Go.Lib.join ([p0.1,y2.1]:List LB) ([32]:LB))++([13,10]:LB))) zG) (yd (qi N ((Go.Lib.join ([p0.1,y2.1]:List LB) ([32]:LB))++([13,10]:LB))) fun y20=>(cond (decide ((0:Int)<y20.2.1)) (some (([]:LB),false,())) (cond ((((yb y20.1):Nat):Int)==(0:Int)) (some (([]:LB),false,())) (cond (inb (ya .i64 ((((yb y20.1):Nat):Int)-(1:Int))) (yb y20.1)) (cond ((nth (.pair (.int .i64) (.sl .u8)) y20.1 (yc (ya .i64 ((((yb y20.1):Nat):Int)-(1:Int))))).1 != (1:Int)) (some (([]:LB),false,())) (cond ((nth (.pair (.int .i64) (.sl .u8)) y20.1 (yc (ya .i64 ((((yb y20.1):Nat):Int)-(1:Int))))).2 != (Go.Lib.join ([p0.1,y2.1]:List LB) ([32]:LB))) (some (([]:LB),false,())) (some (((Go.Lib.join ([p0.1,y2.1]:List LB) ([32]:LB))++([13,10]:LB)),true,())))) none)))) none) none) none))))))))
def zbM(N:Nat){R:Type}(x3:LB)(x4:Int)(rec_:LB->(Int)->Option R)(o0:Unit->Option R)(o1:LB->Option R):Option R:=
 (cond (decide (x4<(((yb x3):Nat):Int))) (cond (inb x4 (yb x3)) (yd (xT N (nth .u8 x3 (yc x4))) fun y7=>(cond (!y7.1) (o0 ()) (rec_ x3 (ya .i64 (x4+(1:Int)))))) none) (o1 x3))
def jI(N:Nat):Nat->LB->(Int)->Option ((Unit) ⊕ (LB))
 |0,_,_=>none
 |m+1,x3,x4=>zbM N x3 x4 (jI N m) (fun _=>some (Sum.inl ())) (fun v0=>some (Sum.inr v0))
def zcw(N:Nat)(p0:LB):Option (Bool×Unit):=
 (yd (jI N N p0 (0:Int)) fun o12=>(ze o12 (fun a13=>(some (false,()))) (fun b14=>(some ((b14 != ([]:LB)),())))))
def zbS(N:Nat){R:Type}(x3:LB)(x4:LB)(x5:Int)(rec_:LB->LB->(Int)->Option R)(o0:Unit->Option R)(o1:LB->Option R):Option R:=
 (cond (decide (x5<(((yb x3):Nat):Int))) (cond (inb x5 (yb x3)) (yd (zaT N (nth .u8 x3 (yc x5))) fun y8=>(cond (!y8.1) (o0 ()) (cond (inb x5 (yb x3)) (cond ((nth .u8 x3 (yc x5))==(34:UInt8)) (cond (decide (yb x4+yb ([92]:LB)<4611686018427387904)) (cond ((wo x5 (ya .i64 (x5+(1:Int))) (yb x3))&&true) (cond (decide (yb (x4++([92]:LB))+yb (slice x3 (yc x5) (yc (ya .i64 (x5+(1:Int)))))<4611686018427387904)) (rec_ x3 ((x4++([92]:LB))++(slice x3 (yc x5) (yc (ya .i64 (x5+(1:Int)))))) (ya .i64 (x5+(1:Int)))) none) none) none) (cond (inb x5 (yb x3)) (cond ((nth .u8 x3 (yc x5))==(92:UInt8)) (cond (decide (yb x4+yb ([92]:LB)<4611686018427387904)) (cond ((wo x5 (ya .i64 (x5+(1:Int))) (yb x3))&&true) (cond (decide (yb (x4++([92]:LB))+yb (slice x3 (yc x5) (yc (ya .i64 (x5+(1:Int)))))<4611686018427387904)) (rec_ x3 ((x4++([92]:LB))++(slice x3 (yc x5) (yc (ya .i64 (x5+(1:Int)))))) (ya .i64 (x5+(1:Int)))) none) none) none) (cond ((wo x5 (ya .i64 (x5+(1:Int))) (yb x3))&&true) (cond (decide (yb x4+yb (slice x3 (yc x5) (yc (ya .i64 (x5+(1:Int)))))<4611686018427387904)) (rec_ x3 (x4++(slice x3 (yc x5) (yc (ya .i64 (x5+(1:Int)))))) (ya .i64 (x5+(1:Int)))) none) none)) none)) none))) none) (o1 x4))
def jK(N:Nat):Nat->LB->LB->(Int)->Option ((Unit) ⊕ (LB))
 |0,_,_,_=>none
 |m+1,x3,x4,x5=>zbS N x3 x4 x5 (jK N m) (fun _=>some (Sum.inl ())) (fun v0=>some (Sum.inr v0))
def zaH(N:Nat)(p0:LB):Option (LB×Bool×Unit):=
 (yd (jK N N p0 ([34]:LB) (0:Int)) fun o13=>(ze o13 (fun a14=>(some (([]:LB),false,()))) (fun b15=>(cond (decide (yb b15+yb ([34]:LB)<4611686018427387904)) (some ((b15++([34]:LB)),true,())) none))))
def zcg(N:Nat)(p0:LB):Option (LB×Unit):=
 (yd (zaH N p0) fun y1=>(cond y1.2.1 (cond (yk (yb y1.1) zG) (some (y1.1,())) none) (yd (wG N p0) fun y2=>(some (y2.1,())))))
def kP(N:Nat)(p0:LB):Option (LB×Unit):=
 (yd (zcw N p0) fun y1=>(cond y1.1 (some (p0,())) (cond (yk (yb p0) zG) (yd (zcg N p0) fun y2=>(some (y2.1,()))) none)))
def kO(N:Nat)(p0:Int):Option (LB×Unit):=
 (cond (p0==(0:Int)) (some (([42]:LB),())) (yd (wE N p0) fun y1=>(some (y1.1,()))))
def wX(N:Nat){R:Type}(x4:List (Int×Int))(x5:LB)(x6:Int)(rec_:(List (Int×Int))->LB->(Int)->Option R)(o0:LB->Option R):Option R:=
 (cond (decide (x6<(((yb x4):Nat):Int))) (cond (decide ((0:Int)<x6)) (cond (decide (yb x5+yb ([44]:LB)<4611686018427387904)) (cond (inb x6 (yb x4)) (yd (kO N (nth (.pair (.int .u32) (.int .u32)) x4 (yc x6)).1) fun y12=>(cond (decide (yb (x5++([44]:LB))+yb y12.1<4611686018427387904)) (cond (inb x6 (yb x4)) (cond (inb x6 (yb x4)) (cond ((nth (.pair (.int .u32) (.int .u32)) x4 (yc x6)).1 != (nth (.pair (.int .u32) (.int .u32)) x4 (yc x6)).2) (cond (decide (yb ((x5++([44]:LB))++y12.1)+yb ([58]:LB)<4611686018427387904)) (cond (inb x6 (yb x4)) (yd (kO N (nth (.pair (.int .u32) (.int .u32)) x4 (yc x6)).2) fun y13=>(cond (decide (yb (((x5++([44]:LB))++y12.1)++([58]:LB))+yb y13.1<4611686018427387904)) (rec_ x4 ((((x5++([44]:LB))++y12.1)++([58]:LB))++y13.1) (ya .i64 (x6+(1:Int)))) none)) none) none) (rec_ x4 ((x5++([44]:LB))++y12.1) (ya .i64 (x6+(1:Int))))) none) none) none)) none) none) (cond (inb x6 (yb x4)) (yd (kO N (nth (.pair (.int .u32) (.int .u32)) x4 (yc x6)).1) fun y14=>(cond (decide (yb x5+yb y14.1<4611686018427387904)) (cond (inb x6 (yb x4)) (cond (inb x6 (yb x4)) (cond ((nth (.pair (.int .u32) (.int .u32)) x4 (yc x6)).1 != (nth (.pair (.int .u32) (.int .u32)) x4 (yc x6)).2) (cond (decide (yb (x5++y14.1)+yb ([58]:LB)<4611686018427387904)) (cond (inb x6 (yb x4)) (yd (kO N (nth (.pair (.int .u32) (.int .u32)) x4 (yc x6)).2) fun y15=>(cond (decide (yb ((x5++y14.1)++([58]:LB))+yb y15.1<4611686018427387904)) (rec_ x4 (((x5++y14.1)++([58]:LB))++y15.1) (ya .i64 (x6+(1:Int)))) none)) none) none) (rec_ x4 (x5++y14.1) (ya .i64 (x6+(1:Int))))) none) none) none)) none)) (o0 x5))
def qj(N:Nat):Nat->(List (Int×Int))->LB->(Int)->Option (LB)
 |0,_,_,_=>none
 |m+1,x4,x5,x6=>wX N x4 x5 x6 (qj N m) (fun v0=>some v0)
def zac(N:Nat)(p0:(List (Int×Int))):Option (LB×Unit):=
 (yd (qj N N p0 ([]:LB) (0:Int)) fun o16=>(some (o16,())))
def zfr(N:Nat){R:Type}(x3:Int)(x4:LB)(x5:Int)(rec_:(Int)->LB->(Int)->Option R)(o0:LB->Option R):Option R:=
 (cond (decide (x5<=(16:Int))) (cond ((zbu .and .i64 x3 x5) != (0:Int)) (cond (x4 != ([]:LB)) (cond (decide (yb x4+yb ([32]:LB)<4611686018427387904)) (yd (xH N x5) fun y9=>(cond (decide (yb (x4++([32]:LB))+yb y9.1<4611686018427387904)) (rec_ x3 ((x4++([32]:LB))++y9.1) (ya .i64 ((2:Int)*x5))) none)) none) (yd (xH N x5) fun y10=>(cond (decide (yb x4+yb y10.1<4611686018427387904)) (rec_ x3 (x4++y10.1) (ya .i64 ((2:Int)*x5))) none))) (rec_ x3 x4 (ya .i64 ((2:Int)*x5)))) (o0 x4))
def xI(N:Nat):Nat->(Int)->LB->(Int)->Option (LB)
 |0,_,_,_=>none
 |m+1,x3,x4,x5=>zfr N x3 x4 x5 (xI N m) (fun v0=>some v0)
def zag(N:Nat)(p0:Int):Option (LB×Unit):=
 (yd (xI N N p0 ([]:LB) (1:Int)) fun o11=>(cond (decide (yb ([40]:LB)+yb o11<4611686018427387904)) (cond (decide (yb (([40]:LB)++o11)+yb ([41]:LB)<4611686018427387904)) (some (((([40]:LB)++o11)++([41]:LB)),())) none) none))
def zdP(N:Nat)(p0:Int)(p1:Bool):Option (LB×Unit):=
 (cond (inb p0 3) (cond p1 (cond (decide (yb (nth .str ([([70,76,65,71,83]:LB),([43,70,76,65,71,83]:LB),([45,70,76,65,71,83]:LB)]:List LB) (yc p0))+yb ([46,83,73,76,69,78,84]:LB)<4611686018427387904)) (some (((nth .str ([([70,76,65,71,83]:LB),([43,70,76,65,71,83]:LB),([45,70,76,65,71,83]:LB)]:List LB) (yc p0))++([46,83,73,76,69,78,84]:LB)),())) none) (some ((nth .str ([([70,76,65,71,83]:LB),([43,70,76,65,71,83]:LB),([45,70,76,65,71,83]:LB)]:List LB) (yc p0)),()))) none)
def zcj(N:Nat)(p0:(El uK2)):Option (LB×Unit):=
 (cond (decide (yb p0.1+yb ([32]:LB)<4611686018427387904)) (yd (xV N p0.2.1) fun y1=>(cond (decide (yb (p0.1++([32]:LB))+yb y1.1<4611686018427387904)) (cond (p0.2.1==(5:Int)) (cond (decide (yb ((p0.1++([32]:LB))++y1.1)+yb ([32]:LB)<4611686018427387904)) (yd (kP N p0.2.2.1) fun y2=>(cond (decide (yb (((p0.1++([32]:LB))++y1.1)++([32]:LB))+yb y2.1<4611686018427387904)) (cond (yk (yb ((((p0.1++([32]:LB))++y1.1)++([32]:LB))++y2.1)) zG) (some (((((p0.1++([32]:LB))++y1.1)++([32]:LB))++y2.1),())) none) none)) none) (cond (p0.2.1==(6:Int)) (cond (decide (yb ((p0.1++([32]:LB))++y1.1)+yb ([32]:LB)<4611686018427387904)) (yd (kP N p0.2.2.1) fun y3=>(cond (decide (yb (((p0.1++([32]:LB))++y1.1)++([32]:LB))+yb y3.1<4611686018427387904)) (cond (decide ((0:UInt8)<p0.2.2.2.2.2.2.2.1)) (cond (decide (yb ((((p0.1++([32]:LB))++y1.1)++([32]:LB))++y3.1)+yb ([32]:LB)<4611686018427387904)) (yd (xU N (ya .i64 ((ym p0.2.2.2.2.2.2.2.1:Nat):Int))) fun y4=>(cond (decide (yb (((((p0.1++([32]:LB))++y1.1)++([32]:LB))++y3.1)++([32]:LB))+yb y4.1<4611686018427387904)) (cond (decide (yb ((((((p0.1++([32]:LB))++y1.1)++([32]:LB))++y3.1)++([32]:LB))++y4.1)+yb ([32]:LB)<4611686018427387904)) (yd (wG N p0.2.2.2.2.2.2.2.2) fun y5=>(cond (decide (yb (((((((p0.1++([32]:LB))++y1.1)++([32]:LB))++y3.1)++([32]:LB))++y4.1)++([32]:LB))+yb y5.1<4611686018427387904)) (cond (yk (yb ((((((((p0.1++([32]:LB))++y1.1)++([32]:LB))++y3.1)++([32]:LB))++y4.1)++([32]:LB))++y5.1)) zG) (some (((((((((p0.1++([32]:LB))++y1.1)++([32]:LB))++y3.1)++([32]:LB))++y4.1)++([32]:LB))++y5.1),())) none) none)) none) none)) none) (cond (decide (yb ((((p0.1++([32]:LB))++y1.1)++([32]:LB))++y3.1)+yb ([32]:LB)<4611686018427387904)) (yd (wG N p0.2.2.2.2.2.2.2.2) fun y6=>(cond (decide (yb (((((p0.1++([32]:LB))++y1.1)++([32]:LB))++y3.1)++([32]:LB))+yb y6.1<4611686018427387904)) (cond (yk (yb ((((((p0.1++([32]:LB))++y1.1)++([32]:LB))++y3.1)++([32]:LB))++y6.1)) zG) (some (((((((p0.1++([32]:LB))++y1.1)++([32]:LB))++y3.1)++([32]:LB))++y6.1),())) none) none)) none)) none)) none) (cond (p0.2.1==(7:Int)) (cond (decide (yb ((p0.1++([32]:LB))++y1.1)+yb ([32]:LB)<4611686018427387904)) (yd (zac N p0.2.2.2.1) fun y7=>(cond (decide (yb (((p0.1++([32]:LB))++y1.1)++([32]:LB))+yb y7.1<4611686018427387904)) (cond (decide (yb ((((p0.1++([32]:LB))++y1.1)++([32]:LB))++y7.1)+yb ([32]:LB)<4611686018427387904)) (yd (zag N p0.2.2.2.2.1) fun y8=>(cond (decide (yb (((((p0.1++([32]:LB))++y1.1)++([32]:LB))++y7.1)++([32]:LB))+yb y8.1<4611686018427387904)) (cond (yk (yb ((((((p0.1++([32]:LB))++y1.1)++([32]:LB))++y7.1)++([32]:LB))++y8.1)) zG) (some (((((((p0.1++([32]:LB))++y1.1)++([32]:LB))++y7.1)++([32]:LB))++y8.1),())) none) none)) none) none)) none) (cond (p0.2.1==(8:Int)) (cond (decide (yb ((p0.1++([32]:LB))++y1.1)+yb ([32]:LB)<4611686018427387904)) (yd (zac N p0.2.2.2.1) fun y9=>(cond (decide (yb (((p0.1++([32]:LB))++y1.1)++([32]:LB))+yb y9.1<4611686018427387904)) (cond (decide (yb ((((p0.1++([32]:LB))++y1.1)++([32]:LB))++y9.1)+yb ([32]:LB)<4611686018427387904)) (yd (zdP N p0.2.2.2.2.2.1 p0.2.2.2.2.2.2.1) fun y10=>(cond (decide (yb (((((p0.1++([32]:LB))++y1.1)++([32]:LB))++y9.1)++([32]:LB))+yb y10.1<4611686018427387904)) (cond (decide (yb ((((((p0.1++([32]:LB))++y1.1)++([32]:LB))++y9.1)++([32]:LB))++y10.1)+yb ([32]:LB)<4611686018427387904)) (yd (xU N (ya .i64 ((ym p0.2.2.2.2.2.2.2.1:Nat):Int))) fun y11=>(cond (decide (yb (((((((p0.1++([32]:LB))++y1.1)++([32]:LB))++y9.1)++([32]:LB))++y10.1)++([32]:LB))+yb y11.1<4611686018427387904)) (cond (yk (yb ((((((((p0.1++([32]:LB))++y1.1)++([32]:LB))++y9.1)++([32]:LB))++y10.1)++([32]:LB))++y11.1)) zG) (some (((((((((p0.1++([32]:LB))++y1.1)++([32]:LB))++y9.1)++([32]:LB))++y10.1)++([32]:LB))++y11.1),())) none) none)) none) none)) none) none)) none) (cond (yk (yb ((p0.1++([32]:LB))++y1.1)) zG) (some (((p0.1++([32]:LB))++y1.1),())) none))))) none)) none)
def wY(N:Nat)(p0:(El uK2)):Option (LB×Bool×Unit):=
 (yd (zbq N p0) fun y1=>(cond (!y1.1) (some (([]:LB),false,())) (yd (zcj N p0) fun y2=>(cond (yk ((yb y2.1)+2) zG) (yd (zbp N (y2.1++([(13:UInt8),(10:UInt8)]:LB))) fun y3=>(cond (decide ((0:Int)<y3.2.1)) (some (([]:LB),false,())) (cond ((((yb y3.1):Nat):Int)==(0:Int)) (some (([]:LB),false,())) (cond (inb (ya .i64 ((((yb y3.1):Nat):Int)-(1:Int))) (yb y3.1)) (cond ((nth (.pair (.int .i64) (.sl .u8)) y3.1 (yc (ya .i64 ((((yb y3.1):Nat):Int)-(1:Int))))).1 != (1:Int)) (some (([]:LB),false,())) (cond (inb (ya .i64 ((((yb y3.1):Nat):Int)-(1:Int))) (yb y3.1)) (cond ((wo (0:Int) (ya .i64 ((((yb (y2.1++([(13:UInt8),(10:UInt8)]:LB))):Nat):Int)-(2:Int))) (yb (y2.1++([(13:UInt8),(10:UInt8)]:LB))))&&true) (cond ((nth (.pair (.int .i64) (.sl .u8)) y3.1 (yc (ya .i64 ((((yb y3.1):Nat):Int)-(1:Int))))).2 != (slice (y2.1++([(13:UInt8),(10:UInt8)]:LB)) 0 (0+((yc (ya .i64 ((((yb (y2.1++([(13:UInt8),(10:UInt8)]:LB))):Nat):Int)-(2:Int))))-0)))) (some (([]:LB),false,())) (some ((y2.1++([(13:UInt8),(10:UInt8)]:LB)),true,()))) none) none)) none)))) none))))
def zaP(N:Nat){R:Type}(x12:List (El uK2))(x13:Int)(x14:Int)(x15:LB)(rec_:(List (El uK2))->(Int)->(Int)->LB->Option R)(o0:LB->Option R)(o1:LB->Option R):Option R:=
 (cond (decide (x14<x13)) (cond (inb x14 (yb x12)) (yd (qD N (nth uK2 x12 (yc x14))) fun y18=>(cond (!y18.2.1) (o0 x15) (cond (yk ((yb x15)+(yb y18.1)) zG) (rec_ x12 x13 (ya .i64 (x14+(1:Int))) (x15++y18.1)) none))) none) (o1 x15))
def qR(N:Nat):Nat->(List (El uK2))->(Int)->(Int)->LB->Option ((LB) ⊕ (LB))
 |0,_,_,_,_=>none
 |m+1,x12,x13,x14,x15=>zaP N x12 x13 x14 x15 (qR N m) (fun v0=>some (Sum.inl v0)) (fun v0=>some (Sum.inr v0))
def xY(N:Nat)(p0:(List (El uK2))):Option (LB×Bool×Unit):=
 (yd (qR N N p0 (((yb p0):Nat):Int) (0:Int) ([]:LB)) fun o23=>(ze o23 (fun a24=>(some (([]:LB),false,()))) (fun b25=>(some (b25,true,())))))
def zdx(N:Nat){R:Type}(x3:List (El uK2))(x4:Int)(rec_:(List (El uK2))->(Int)->Option R)(o0:Unit->Option R)(o1:(List (El uK2))->Option R):Option R:=
 (cond (decide (x4<(((yb x3):Nat):Int))) (cond (inb x4 (yb x3)) (yd (xL N (nth uK2 x3 (yc x4))) fun y7=>(cond (!y7.1) (o0 ()) (rec_ x3 (ya .i64 (x4+(1:Int)))))) none) (o1 x3))
def wj(N:Nat):Nat->(List (El uK2))->(Int)->Option ((Unit) ⊕ ((List (El uK2))))
 |0,_,_=>none
 |m+1,x3,x4=>zdx N x3 x4 (wj N m) (fun _=>some (Sum.inl ())) (fun v0=>some (Sum.inr v0))
def zda(N:Nat)(p0:(List (El uK2))):Option (Bool×Unit):=
 (yd (wj N N p0 (0:Int)) fun o12=>(ze o12 (fun a13=>(some (false,()))) (fun b14=>(some ((decide ((((yb b14):Nat):Int)<=(30:Int))),())))))
def zbc(N:Nat){R:Type}(x9:List (El uK2))(x10:Int)(x11:LB)(rec_:(List (El uK2))->(Int)->LB->Option R)(o0:LB->Option R)(o1:LB->Option R):Option R:=
 (cond (decide (x10<(((yb x9):Nat):Int))) (cond (inb x10 (yb x9)) (yd (wY N (nth uK2 x9 (yc x10))) fun y14=>(cond (!y14.2.1) (o0 x11) (cond (yk ((yb x11)+(yb y14.1)) zG) (rec_ x9 (ya .i64 (x10+(1:Int))) (x11++y14.1)) none))) none) (o1 x11))
def jk(N:Nat):Nat->(List (El uK2))->(Int)->LB->Option ((LB) ⊕ (LB))
 |0,_,_,_=>none
 |m+1,x9,x10,x11=>zbc N x9 x10 x11 (jk N m) (fun v0=>some (Sum.inl v0)) (fun v0=>some (Sum.inr v0))
def zaI(N:Nat)(p0:(List (El uK2))):Option (LB×Bool×Unit):=
 (yd (jk N N p0 (0:Int) ([]:LB)) fun o19=>(ze o19 (fun a20=>(some (([]:LB),false,()))) (fun b21=>(some (b21,true,())))))
def jr(N:Nat)(p0:(El uK2)):Option (Bool×Unit):=
 (yd (xL N p0) fun y1=>(cond (!y1.1) (yd (some (true,())) fun y2=>(some (y2.1,()))) (yd (qD N p0) fun y3=>(cond (!y3.2.1) (yd (some (true,())) fun y4=>(cond y4.1 (cond (!y3.2.1) (some (((((yb y3.1):Nat):Int)==(0:Int)),())) (some (false,()))) (some (false,())))) (cond (decide ((((yb y3.1):Nat):Int)<(2:Int))) (yd (some (true,())) fun y5=>(cond y5.1 (cond (!y3.2.1) (some (((((yb y3.1):Nat):Int)==(0:Int)),())) (some (false,()))) (some (false,())))) (cond ((wo (0:Int) (ya .i64 ((((yb y3.1):Nat):Int)-(2:Int))) (yb y3.1))&&true) (yd (wv N (slice y3.1 0 (yc (ya .i64 ((((yb y3.1):Nat):Int)-(2:Int)))))) fun y6=>(yd (some (true,())) fun y7=>(cond y7.1 (cond y6.2.1 (yd (zS N y6.1 p0) fun y8=>(some (y8.1,()))) (some (false,()))) (some (false,()))))) none))))))
def qy(N:Nat)(p0:(List (El uK2))):Option (Bool×Unit):=
 (yd (zda N p0) fun y1=>(cond (!y1.1) (yd (some (true,())) fun y2=>(some (y2.1,()))) (yd (xY N p0) fun y3=>(yd (zaI N p0) fun y4=>(yd (jl N y3.1 y4.1) fun y5=>(cond (!y5.1) (some (false,())) (cond (!(y3.2.1==y4.2.1)) (some (false,())) (cond (!y3.2.1) (yd (some (true,())) fun y6=>(some (y6.1,()))) (yd (zbn N y3.1) fun y7=>(yd (some (true,())) fun y8=>(cond y8.1 (cond y7.2.1 (yd (zch N y7.1 p0) fun y9=>(some (y9.1,()))) (some (false,()))) (some (false,())))))))))))))
end Go.Proofs.Model
namespace Go.Sx
open Go Go.Gx Go.Mx
variable [kF]
def zBh(u:U)(rs:List U):SC->Option (El u×El (zaE rs))
 |.ret v h=>match unS rs v with
  |some vs=>match kD rs vs h with
   |some (y,h1)=>match(h1[0]?:Option SB) with
    |some (.cells cs 0 _)=>match dec u cs h1 with
     |some (x,[],h2)=>match(h2[0]?:Option SB) with
      |some (.cells _ 0 _)=>some (x,y)
      |_=>none
     |_=>none
    |_=>none
   |none=>none
  |none=>none
 |.pan _ _=>none
def zpN(u:U)(us rs:List U)(F:El u->El (zaE us)->Option (El u×El (zaE rs))):CF:=fun R args h κ=>match args with
 |.ptr loc 0 lim::args=>match vI lim u.sz,kD us args h with
  |true,some (y,h1)=>match h1[loc]? with
   |some (.cells cs 0 _)=>match dec u cs h1 with
    |some (x,[],h2)=>match h2[loc]? with
     |some (.cells _ 0 _)=>(F x y).bind fun p=>κ (.ret (zpi (jx rs p.2)) (h2.set loc (.cells (enc u p.1) 0)))
     |_=>none
    |_=>none
   |_=>none
  |_,_=>none
 |_=>none
section
variable {P:Program} {gl:GL} {ct:CT} {hk:wJ}
theorem zxJ{rs:List U}{v:SV}{vs:List SV}{Z:Gst}{xv:AV}(hvs:unS rs v=some vs)(hv:RV Z v xv)(y:El (zaE rs)):
  ∃ xs,RVs Z vs xs/\∀ W,(RVs W (jx rs y) xs->RV W (zpi (jx rs y)) xv):=by
 unfold unS at hvs
 split at hvs
 ·cases hvs
  exact⟨[xv],.one hv,fun W ⟨a,t,e,q,ht⟩=>by cases e;exact q⟩
 ·rename_i hrs
  split at hvs
  ·cases hvs
   obtain⟨l',rfl,q⟩:=hv
   refine⟨l',q,fun W hW=>?_⟩
   have:zpi (jx rs y)=.tup (jx rs y):=by
    match rs,y,hrs with
    | [],_,_=>rfl
    | [u],_,hrs=>exact absurd rfl (hrs u)
    |_::_::_,_,_=>rfl
   rw[this];exact⟨l',rfl,hW⟩
  ·cases hvs
theorem zhK{X:Gst}(hr:RH X){loc md:Nat}{cs:List SV}{mk:Option TypeId}(h:X.sh[loc]?=some (.cells cs md mk)):∃ m l tt,X.σ[loc]?=some (some (m,0))/\X.h[m]?=some (.row l 0 0 0 false tt)/\RVs X cs l:=by
 have hl:loc<X.σ.length:=by rw[hr.len];exact(yq.1 h).1
 obtain⟨m,l,tt,e,h1,h2⟩:=hr.blk loc _ _ h (yi hl)
 exact⟨m,l,mk.or tt,by rw[yi hl,e],h1,h2⟩
theorem zno{f:FuncId}{u:U}{us rs:List U}{F:El u->El (zaE us)->Option (El u×El (zaE rs))}{run:CF}(hrun:zhI P gl hk f run)
  (hF:∀ x y,run _ (.ptr 0 0 u.sz::jx us y) [.cells (enc u x) 0] (zBh u rs)=F x y):zhI P gl hk f (zpN u us rs F):=by
 intro R args κ r X margs h hargs hr hg
 unfold zpN at h
 split at h
 ·rename_i loc lim args'
  obtain⟨x0,xs,rfl,⟨m,⟨v0,hat⟩,rfl⟩,hargs⟩:=hargs
  split at h
  ·rename_i y h1 hlim hd1
   have hlim:=vu hlim
   subst hlim
   split at h
   ·rename_i cs hcs
    split at h
    ·rename_i x h2 hd2
     split at h
     ·rename_i cs2 hcs2
      obtain⟨Y1,S1,hh1,hs1,hA1⟩:=kb us hr hargs hd1
      rw[<- hs1] at hcs hd2
      obtain⟨m1,l1,tt1,e1,g1,q1⟩:=zhK S1.hr hcs
      obtain⟨v1,e1'⟩:=S1.le.at_ loc m v0 hat
      rw[e1] at e1';cases e1'
      obtain⟨Y2,c1,c2,S2,hh2,hs2,ec,hRE,hc2⟩:=zb0 u S1.hr q1 hd2
      cases(show c2=[] from hc2)
      rw[yY] at ec
      subst ec
      rw[<- hs2] at hcs2 h
      obtain⟨v2,e2'⟩:=S2.le.at_ loc m 0 e1
      obtain⟨m2,l2,tt2,e2,g2,q2⟩:=zhK S2.hr hcs2
      rw[e2] at e2';cases e2'
      rw[hh2] at g2
      rw[g1] at g2;cases g2
      have hnΦ:¬ Y2.Φ m:=fun hΦ=>(S2.hr.own loc m 0 _ hcs2 e2 hΦ).elim (fun e=>by cases e) (fun e=>by cases e)
      have hrow:Y2.h[m]?=some (.row l1 0 0 0 false tt1):=by rw[hh2];exact g1
      have hbσ:∀ (i m' v':Nat),([some (m,0)]:List (Option (Nat×Nat)))[i]?=some (some (m',v'))->i=0/\m'=m/\v'=0:=by
       intro i m' v' hi
       cases i with
       |zero=>simp at hi;exact⟨rfl,hi.1.symm,hi.2.symm⟩
       |succ i=>simp at hi
      have hbs:∀ (i:Nat) (b:SB),([.cells (enc u x) 0]:SH)[i]?=some b->i=0/\b=.cells (enc u x) 0:=by
       intro i b hi
       cases i with
       |zero=>simp at hi;exact⟨rfl,hi.symm⟩
       |succ i=>simp at hi
      have hB:RH (⟨Y2.h,Y2.Φ,[some (m,0)],[.cells (enc u x) 0]⟩:Gst):=by
       refine⟨rfl,fun i j m' v v' h1 h2=>by rw[(hbσ i m' v h1).1,(hbσ j m' v' h2).1],fun i m' v h1=>?_,S2.hr.Φlt,fun i b o h1 h2=>?_,fun i m' v b h1 h2 h3=>?_⟩
       ·rw[(hbσ i m' v h1).2.1];exact S2.hr.lt loc m 0 e2
       ·obtain⟨rfl,rfl⟩:=hbs i b h1
        have h2:o=some (m,0):=by simpa using h2.symm
        subst h2
        exact⟨m,l1,tt1,rfl,hrow,zak hRE⟩
       ·rw[(hbσ i m' v h2).2.1] at h3;exact absurd h3 hnΦ
      have hgB:RGl P gl (⟨Y2.h,Y2.Φ,[some (m,0)],[.cells (enc u x) 0]⟩:Gst):=fun g cs hg'=>((hg.le S1.le).le S2.le) g cs hg'
      have hargsB:RVs (⟨Y2.h,Y2.Φ,[some (m,0)],[.cells (enc u x) 0]⟩:Gst) (.ptr 0 0 u.sz::jx us y) (.ptr m 0 0 u.sz::xs):=
       ⟨_,_,rfl,⟨m,⟨0,rfl⟩,rfl⟩,hA1 _ hh2 fun m' hm=>S2.le.Φ m' hm⟩
      cases hFx:F x y with
      |none=>rw[hFx] at h;cases h
      |some p=>
       rw[hFx] at h
       rw[<- hF x y] at hFx
       obtain⟨q,Z,mq,k1,S3,hcr,ev⟩:=hrun _ _ _ _ _ _ hFx hargsB hB hgB
       cases q with
       |pan v sh=>cases k1
       |ret v sh=>
        cases mq with
        |pan=>cases hcr
        |ret xv hv'=>
         obtain⟨z1,z2,hv⟩:=hcr
         simp only[zBh] at k1
         split at k1
         ·rename_i vs hvs
          split at k1
          ·rename_i y' h3 hd3
           split at k1
           ·rename_i cs3 hcs3
            split at k1
            ·rename_i x' h4 hd4
             split at k1
             ·rename_i cs4 hcs4
              cases k1
              rw[<- z1] at hd3
              obtain⟨ys,hys,hone⟩:=zxJ hvs hv y'
              obtain⟨Z1,S4,hh3,hs3,hA3⟩:=kb rs S3.hr hys hd3
              rw[<- hs3] at hcs3 hd4
              obtain⟨m3,l3,tt3,e3,g3,q3⟩:=zhK S4.hr hcs3
              obtain⟨v3,e3'⟩:=S4.le.at_ 0 m _ (S3.le.at_ 0 m 0 rfl).choose_spec
              rw[e3] at e3';cases e3'
              obtain⟨Z2,d1,d2,S5,hh4,hs4,ed,hRE2,hd2'⟩:=zb0 u S4.hr q3 hd4
              cases(show d2=[] from hd2')
              rw[yY] at ed
              subst ed
              rw[<- hs4] at hcs4
              obtain⟨m4,l4,tt4,e4,g4,q4⟩:=zhK S5.hr hcs4
              obtain⟨v4,e4'⟩:=S5.le.at_ 0 m 0 e3
              rw[e4] at e4';cases e4'
              rw[hh4,g3] at g4;cases g4
              have hnΦ2:¬ Z2.Φ m:=fun hΦ=>(S5.hr.own 0 m 0 _ hcs4 e4 hΦ).elim (fun e=>by cases e) (fun e=>by cases e)
              have hrow2:Z2.h[m]?=some (.row l3 0 0 0 false tt3):=by rw[hh4];exact g3
              have S6:=(S3.trans S4).trans S5
              have hsame:∀ m',m'<Y2.h.length->m'≠m->Z2.h[m']?=Y2.h[m']?:=fun m' hm hne=>S6.fm.h m' hm fun i v b hb hσ=>absurd (hbσ i m' v hσ).2.1 hne
              have hphi:∀ m',m'<Y2.h.length->Z2.Φ m'->Y2.Φ m':=fun m' hm hΦ=>(S6.fm.phi m' hm hΦ).elim id fun⟨i,v,b,hb,hσ,_⟩=>by
               rw[(hbσ i m' v hσ).2.1] at hΦ;exact absurd hΦ hnΦ2
              have hloc:loc<Y2.sh.length:=(yq.1 hcs2).1
              have hle:Y2.le ⟨Z2.h,Z2.Φ,Y2.σ,Y2.sh.set loc (.cells (enc u x') 0)⟩:=by
               refine⟨fun m' hm=>hsame m' (S2.hr.Φlt m' hm) fun e=>hnΦ (e ▸ hm),S6.le.Φ,yw _,fun _ _ v h=>⟨v,h⟩,fun i w l k md hi hs=>?_,S2.hr.len⟩
               rcases qk hs with⟨_,e⟩|⟨_,hs⟩
               ·cases e
               ·exact⟨l,k,md,hs,yw _,fun _=>⟨rfl,rfl⟩⟩
              have hW:RVs (⟨Z2.h,Z2.Φ,Y2.σ,Y2.sh.set loc (.cells (enc u x') 0)⟩:Gst) (enc u x') l3:=zak hRE2
              have S7:Stp Y2 ⟨Z2.h,Z2.Φ,Y2.σ,Y2.sh.set loc (.cells (enc u x') 0)⟩:=by
               refine⟨hle,⟨by rw[List.length_set];exact S2.hr.len,S2.hr.inj,fun i m' v h=>vg (S2.hr.lt i m' v h) S6.fm.len,S5.hr.Φlt,fun i b o hb ho=>?_,fun i m' v b hb ho hΦ=>?_⟩,
                ⟨S6.fm.len,fun m' hm hx=>hsame m' hm fun e=>?_,fun i b hb hm=>?_,fun i m' v h _=>⟨v,h⟩,fun i hgn=>?_,fun m' hm hΦ=>.inl (hphi m' hm hΦ)⟩⟩
               ·rcases qk hb with⟨rfl,rfl⟩|⟨hne,hb⟩
                ·rw[e2] at ho;cases ho
                 exact⟨m,l3,tt3,rfl,hrow2,hW⟩
                ·refine(S2.hr.blk i b o hb ho).le hle fun m' v e=>hsame m' (S2.hr.lt i m' v (e ▸ ho)) fun em=>?_
                 subst e;subst em
                 exact hne (S2.hr.inj i loc _ _ _ ho e2)
               ·rcases qk hb with⟨rfl,rfl⟩|⟨hne,hb⟩
                ·rw[e2] at ho;cases ho
                 exact absurd hΦ hnΦ2
                ·exact S2.hr.own i m' v b hb ho (hphi m' (S2.hr.lt i m' v ho) hΦ)
               ·subst e
                exact absurd rfl (hx loc 0 _ hcs2 e2)
               ·have hne:i≠loc:=fun e=>by subst e;rw[hcs2] at hb;cases hb;exact hm rfl
                exact⟨b,by rw[vv (Ne.symm hne)];exact hb,hm⟩
               ·have hne:i≠loc:=fun e=>by subst e;rw[hcs2] at hgn;cases hgn
                exact⟨by rw[vv (Ne.symm hne)];exact hgn,rfl⟩
              refine⟨_,_,.ret xv hv',h,(S1.trans S2).trans S7,⟨rfl,?_,hone _ (hA3 _ (by rw[<- hh4]) fun m' hm=>S5.le.Φ m' hm)⟩,?_⟩
              ·show Z2.h=hv';rw[hh4,hh3,z2]
              ·rw[<- hh1,<- hh2];exact ev
             ·cases k1
            ·cases k1
           ·cases k1
          ·cases k1
         ·cases k1
     ·cases h
    ·cases h
   ·cases h
  ·cases h
 ·cases h
theorem fnP{T:FT}{al:List FuncId}(hh:zpH P hk al)(hT:zi1 P gl hk T){f:FuncId}{u:U}{us rs:List U}{F:El u->El (zaE us)->Option (El u×El (zaE rs))}(pl:Pl){fn:Func}(hf:P.funcs[f]?=some fn){ls:List (Code×LF)}(hs:zc4 P gl hk ls)
  (ha:(al.all fun f=>zo0 T f)=true:=by rfl) (n:Nat:=1500) (h:(match fn.body with|some b=>qm P pl b|none=>none)=some ls:=by kernel_rfl)
  (hF:∀ x y,zao P gl (zfj T) n pl f (.ptr 0 0 u.sz::jx us y) [.cells (enc u x) 0] (zBh u rs)=F x y:=by intro x y;kernel_rfl):zi1 P gl hk ((f,zpN u us rs F)::T):=
 ⟨zno (run:=fun R args h κ=>zao P gl (zfj T) (R:=R) n pl f args h κ) ((zcB (ztX hh ha hT) n).2.2.1 pl f (zfa hf h hs)) hF,hT⟩
def zBg(u:U)(rs:List U):SC->Option (List (El u)×El (zaE rs))
 |.ret v h=>match unS (.sl u::rs) v with
  |some (v0::vs)=>match kD rs vs h with
   |some (y,h1)=>match v0 with
    |.a .qC=>some ([],y)
    |.gs loc n=>match(h1[loc]?:Option SB) with
     |some (.seq u' l k 0)=>match vI n k,zbr u' u l with
      |true,some l'=>some (l',y)
      |_,_=>none
     |_=>none
    |_=>none
   |none=>none
  |_=>none
 |.pan _ _=>none
def zAe(u:U)(us rs:List U)(F:El (zaE us)->Option (List (El u)×El (zaE rs))):CF:=fun R args h κ=>match kD us args h with
 |some (x,h')=>(F x).bind fun p=>κ (.ret (zpi (.gs h'.length 0::jx rs p.2)) (h'++[.seq u p.1 0 0]))
 |none=>none
theorem zvi{u:U}{rs:List U}{v:SV}{vs:List SV}{Z:Gst}{xv:AV}(hvs:unS (.sl u::rs) v=some vs)(hv:RV Z v xv):
  ∃ xs,RVs Z vs xs/\∀ (W:Gst) (w:SV) (ws:List SV),(rs=[]->ws=[])->(rs≠[]->ws≠[])->RVs W (w::ws) xs->RV W (zpi (w::ws)) xv:=by
 cases rs with
 |nil=>
  cases hvs
  refine⟨[xv],.one hv,fun W w ws h1 _ ⟨a,t,e,q,ht⟩=>?_⟩
  rw[h1 rfl];cases e;exact q
 |cons u2 rs=>
  simp only[unS] at hvs
  split at hvs
  ·cases hvs
   obtain⟨l',rfl,q⟩:=hv
   refine⟨l',q,fun W w ws _ h2 hW=>?_⟩
   have:=h2 (by simp)
   cases ws with
   |nil=>exact absurd rfl this
   |cons w2 ws=>exact⟨l',rfl,hW⟩
  ·cases hvs
theorem zgo:∀ (rs:List U) (y:El (zaE rs)),(jx rs y).length=rs.length
 | [],_=>rfl
 |_::rs,y=>by simp [jx,zgo rs y.2]
theorem znn{f:FuncId}{u:U}{us rs:List U}{F:El (zaE us)->Option (List (El u)×El (zaE rs))}{run:CF}(hrun:zhI P gl hk f run)
  (hF:∀ x,run _ (jx us x) [] (zBg u rs)=F x):zhI P gl hk f (zAe u us rs F):=by
 intro R args κ r X margs h hargs hr hg
 unfold zAe at h
 split at h
 ·rename_i x h' hd
  obtain⟨Y,S1,hh1,hs1,hA⟩:=kb us hr hargs hd
  cases hFx:F x with
  |none=>rw[hFx] at h;cases h
  |some p=>
   obtain⟨l,y⟩:=p
   rw[hFx] at h
   have hY:RH Y.base:=⟨rfl,fun i j m v v' h=>by simp [Gst.base] at h,fun i m v h=>by simp [Gst.base] at h,S1.hr.Φlt,fun i b o h=>by simp [Gst.base] at h,fun i m v b h=>by simp [Gst.base] at h⟩
   have hgY:RGl P gl Y.base:=fun g cs hg'=>(hg.le S1.le) g cs hg'
   rw[<- hF x] at hFx
   obtain⟨q,Z,mq,k1,S2,hcr,ev⟩:=hrun _ _ _ _ Y.base margs hFx (hA Y.base rfl fun _ h=>h) hY hgY
   cases q with
   |pan v sh=>cases k1
   |ret v sh=>
    cases mq with
    |pan=>cases hcr
    |ret xv hv'=>
     obtain⟨e1,e2,hv⟩:=hcr
     simp only[zBg] at k1
     split at k1
     ·rename_i v0 vs hvs
      split at k1
      ·rename_i y' h2 hd2
       rw[<- e1] at hd2
       obtain⟨xs0,hxs0,hone⟩:=zvi hvs hv
       obtain⟨x0,xs,rfl,hx0,hxs⟩:=hxs0
       obtain⟨Z2,S3,hh3,hs3,hA3⟩:=kb rs S2.hr hxs hd2
       have S4:=S2.trans S3
       have hx0':RV Z2 v0 x0:=hx0.le S3.le
       have hsame:∀ m,m<Y.h.length->Z2.h[m]?=Y.h[m]?:=fun m hm=>S4.fm.h m hm fun i v b hb=>by simp [Gst.base] at hb
       have hphi:∀ m,m<Y.h.length->Z2.Φ m->Y.Φ m:=fun m hm hΦ=>(S4.fm.phi m hm hΦ).elim id fun⟨i,v,b,hb,_⟩=>by simp [Gst.base] at hb
       have key:∀ (o:Option (Nat×Nat)) (l:List (El u)),(∀ m ver,o=some (m,ver)->Y.h.length<=m/\m<Z2.h.length/\¬ Z2.Φ m)->(∀ W:Gst,W.h=Z2.h->W.Φ=Z2.Φ->RB W (.seq u l 0 0) o) ->
         (match o with|some (m,ver)=>x0=.sl m 0 l.length u.sz ver false|none=>x0=.qC/\l.length=0)->(κ (.ret (zpi (.gs h'.length 0::jx rs y')) (h'++[.seq u l 0 0]))=some r) ->
         ∃ q Y' mq,κ q=some r/\Stp X Y'/\CRR Y' q mq/\Ev fun n=>jU P hk (jO P hk n) (.f f) margs X.h=some mq:=by
        intro o l hm hB hx h
        have hpush:∀ {j:Nat} {z:Option (Nat×Nat)},(Y.σ++[o])[j]?=some z->Y.σ[j]?=some z\/(j=Y.σ.length/\o=z):=fun h=>qq h
        have hσ:∀ (i:Nat),i<Y.σ.length->(Y.σ++[o])[i]?=Y.σ[i]?:=fun i hi=>yT hi
        have hle:Y.le ⟨Z2.h,Z2.Φ,Y.σ++[o],Y.sh++[.seq u l 0 0]⟩:=by
         refine⟨fun m hm=>hsame m (S1.hr.Φlt m hm),S4.le.Φ,by simp,fun loc m v h=>⟨v,by rw[hσ _ (yq.1 h).1];exact h⟩,fun loc w l' k md hi hs=>?_,S1.hr.len⟩
         dsimp only at hs
         rw[yT hi] at hs
         exact⟨l',k,md,hs,yw _,fun _=>⟨rfl,hσ _ (by rw[S1.hr.len];exact hi)⟩⟩
        have S5:Stp Y ⟨Z2.h,Z2.Φ,Y.σ++[o],Y.sh++[.seq u l 0 0]⟩:=by
         refine⟨hle,⟨by simp [S1.hr.len],fun i j m v v' h1 h2=>?_,fun i m v h1=>?_,S4.hr.Φlt,fun i b o' h1 h2=>?_,fun i m v b h1 h2 h3=>?_⟩,⟨S4.fm.len,fun m hm' _=>hsame m hm',fun i b hb hm'=>⟨b,?_,hm'⟩,fun i m v h1 hm'=>?_,fun i h1=>⟨?_,?_⟩,fun m hm' hΦ=>.inl (hphi m hm' hΦ)⟩⟩
         ·rcases hpush h1 with q1|⟨e1,q1⟩<;>rcases hpush h2 with q2|⟨e2,q2⟩
          ·exact S1.hr.inj _ _ _ _ _ q1 q2
          ·have:=(hm m v' q2).1;have:=S1.hr.lt _ _ _ q1;omega
          ·have:=(hm m v q1).1;have:=S1.hr.lt _ _ _ q2;omega
          ·exact e1.trans e2.symm
         ·rcases hpush h1 with q1|⟨_,q1⟩
          ·exact vg (S1.hr.lt _ _ _ q1) S4.fm.len
          ·exact(hm m v q1).2.1
         ·rcases qq h1 with q1|⟨rfl,rfl⟩
          ·have hi:=(yq.1 q1).1
           dsimp only at h2
           rw[hσ _ (by rw[S1.hr.len];exact hi)] at h2
           exact(S1.hr.blk i b o' q1 h2).le hle fun m v e=>hsame m (S1.hr.lt i m v (e ▸ h2))
          ·dsimp only at h2
           rw[<- S1.hr.len,yK (yw _)] at h2
           simp at h2;subst h2
           exact hB _ rfl rfl
         ·rcases qq h1 with q1|⟨rfl,rfl⟩
          ·have hi:=(yq.1 q1).1
           dsimp only at h2
           rw[hσ _ (by rw[S1.hr.len];exact hi)] at h2
           exact S1.hr.own i m v b q1 h2 (hphi m (S1.hr.lt i m v h2) h3)
          ·dsimp only at h2
           rw[<- S1.hr.len,yK (yw _)] at h2
           simp at h2
           exact absurd h3 (hm m v h2).2.2
         ·show(Y.sh++[_])[i]?=_
          rw[yT (yq.1 hb).1];exact hb
         ·rcases hpush h1 with q1|⟨_,q1⟩
          ·exact⟨v,q1⟩
          ·have:=(hm m v q1).1;omega
         ·show(Y.sh++[_])[i]?=_
          rw[yT (yq.1 h1).1];exact h1
         ·exact hσ i (by rw[S1.hr.len];exact(yq.1 h1).1)
        refine⟨_,_,.ret xv hv',h,S1.trans S5,⟨by rw[hs1],?_,?_⟩,?_⟩
        ·show Z2.h=hv';rw[hh3,e2]
        ·refine hone _ _ _ (fun e=>vj (by rw[zgo,e];rfl)) (fun e=>?_) ⟨x0,xs,rfl,?_,hA3 _ rfl fun _ h=>h⟩
         ·intro e2
          have:=zgo rs y'
          rw[e2] at this
          exact e (vj this.symm)
         ·have hl:h'.length=Y.σ.length:=by rw[S1.hr.len,hs1]
          refine⟨?_,o,?_,fun w l2 k md hs=>?_⟩
          ·cases o with
           |none=>rw[hx.1];rfl
           |some p=>obtain⟨m,ver⟩:=p;simp only at hx;rw[hx];rfl
          ·show(Y.σ++[o])[h'.length]?=some o
           rw[hl,yK (yw _)];simp
          ·have hs:(Y.sh++[SB.seq u l 0 0])[h'.length]?=some (.seq w l2 k md):=hs
           rw[hl,S1.hr.len,yK (yw _)] at hs
           simp at hs
           obtain⟨rfl,e,rfl,rfl⟩:=hs
           cases e
           refine⟨yw _,fun _=>?_⟩
           cases o with
           |none=>exact hx
           |some p=>exact hx
        ·rw[<- hh1];exact ev
       split at k1
       ·cases k1
        cases(show x0=_ from hx0')
        exact key none [] (fun m ver e=>by cases e) (fun W _ _=>rfl) ⟨rfl,rfl⟩ h
       ·rename_i loc n
        split at k1
        ·rename_i u' l1 k hb
         split at k1
         ·rename_i l2 hn hc
          cases k1
          have hn:=vu hn
          subst hn
          obtain⟨e,hc⟩:=jm hc
          subst e;cases hc
          rw[<- hs3] at hb
          obtain⟨ho,o,hσo,hcur⟩:=hx0'
          have hq:=(hcur _ _ _ _ hb).2 rfl
          have hRB:=S4.hr.blk loc _ o hb hσo
          refine key o _ (fun m ver e=>?_) (fun W w1 w2=>?_) ?_ h
          ·subst e
           refine⟨?_,S4.hr.lt loc m ver hσo,fun hΦ=>(S4.hr.own loc m ver _ hb hσo hΦ).elim (fun e=>by cases e) (fun e=>by cases e)⟩
           rcases Nat.lt_or_ge m Y.h.length with hlt|hge
           ·obtain⟨v',hv2⟩:=S4.fm.new loc m ver hσo hlt
            simp [Gst.base] at hv2
           ·exact hge
          ·cases o with
           |none=>exact hRB
           |some p=>
            obtain⟨m,ver⟩:=p
            obtain⟨cells,minv,tt,g1,g2,g3,g4⟩:=hRB
            exact⟨cells,minv,_,by rw[w1,zpc (n:=0) rfl];exact g1,g2,by rw[w1,w2];exact g3,fun e=>by cases e⟩
          ·cases o with
           |none=>exact hq
           |some p=>exact hq
         ·cases k1
        ·cases k1
       ·cases k1
      ·cases k1
     ·cases k1
 ·cases h
theorem fnO{T:FT}{al:List FuncId}(hh:zpH P hk al)(hT:zi1 P gl hk T){f:FuncId}{u:U}{us rs:List U}{F:El (zaE us)->Option (List (El u)×El (zaE rs))}(pl:Pl){fn:Func}(hf:P.funcs[f]?=some fn){ls:List (Code×LF)}(hs:zc4 P gl hk ls)
  (ha:(al.all fun f=>zo0 T f)=true:=by rfl) (n:Nat:=1500) (h:(match fn.body with|some b=>qm P pl b|none=>none)=some ls:=by kernel_rfl)
  (hF:∀ x,zao P gl (zfj T) n pl f (jx us x) [] (zBg u rs)=F x:=by intro x;kernel_rfl):zi1 P gl hk ((f,zAe u us rs F)::T):=
 ⟨znn (run:=fun R args h κ=>zao P gl (zfj T) (R:=R) n pl f args h κ) ((zcB (ztX hh ha hT) n).2.2.1 pl f (zfa hf h hs)) hF,hT⟩
end
end Go.Sx
namespace Go.Sx
open Go Go.Gx Go.Mx
theorem wri{x:Int}(h:-9223372036854775808<=x)(h':x<=9223372036854775807):ya .i64 x=x:=by
 simp [ya,yj,vJ];omega
theorem jh{i n:Nat}(h:i<n):inb (i:Int) n=true:=by
 unfold inb;simp;omega
theorem wR{a b n:Nat}(h:a<=b)(h':b<=n):wo (a:Int) (b:Int) n=true:=by
 unfold wo;simp;omega
theorem wO{u:U}{l:List (El u)}{i:Nat}(h:i<l.length):nth u l i=l[i]:=by
 unfold nth;rw[List.getD_eq_getElem?_getD,yi h];rfl
theorem drop_one{α:Type}{l:List α}{i:Nat}(h:i<l.length):l.drop i=l[i]::l.drop (i+1):=List.drop_eq_getElem_cons h
theorem zhP{i n:Nat}(h:i<n):decide ((i:Int)<(n:Int))=true:=by simp;omega
theorem zhO{i n:Nat}(h:¬ i<n):decide ((i:Int)<(n:Int))=false:=by simp;omega
theorem wL{α:Type}{l:List α}{n:Nat}:slice l 0 n=l.take n:=by unfold slice;simp
theorem zc2{α:Type}{l:List α}{a:Nat}:slice l a l.length=l.drop a:=by
 unfold slice;rw[List.take_of_length_le];rw[yn];exact yw _
section
variable {u v:U} (hS:∀ a b:El u,zqp u a b=true↔a=b)
include hS
end
end Go.Sx
namespace Go.Proofs.Model
open Go Go.Gx Go.Mx Go.Sx
theorem zh2{p:UInt8->Bool}(h:((yZ 256).all fun n=>p (yf n))=true)(c:UInt8):p c=true:=by
 rw[yR] at h
 have:=h c.toNat (yV.2 c.toNat_lt)
 rwa [UInt8.ofNat_toNat] at this
def bOf(o:Option (Bool×Unit)):Bool:=match o with
 |some (b,_)=>b
 |none=>false
def za0(c:UInt8):Bool:=bOf (xT 0 c)
def xC(c:UInt8):Bool:=bOf (zbP 0 c)
def zbj(c:UInt8):Bool:=bOf (zaT 0 c)
def qA(c:UInt8):Bool:=bOf (zhn 0 c)
def isB(o:Option (Bool×Unit))(b:Bool):Bool:=match o with
 |some (x,_)=>x==b
 |none=>false
theorem zio{o:Option (Bool×Unit)}{b:Bool}(h:isB o b=true):o=some (b,()):=by
 unfold isB at h
 split at h
 ·rename_i x u;rw[beq_iff_eq] at h;subst h;rfl
 ·cases h
theorem zA0(N:Nat)(c:UInt8):xT N c=some (za0 c,()):=zio (zh2 (p:=fun c=>isB (xT 0 c) (za0 c)) (by kernel_rfl) c)
theorem zB3(N:Nat)(c:UInt8):zbB N c=some (xC c,()):=zio (zh2 (p:=fun c=>isB (zbB 0 c) (xC c)) (by kernel_rfl) c)
theorem zCG(N:Nat)(c:UInt8):zbP N c=some (xC c,()):=zio (zh2 (p:=fun c=>isB (zbP 0 c) (xC c)) (by kernel_rfl) c)
theorem zxH(N:Nat)(c:UInt8):kI N c=some (zbj c,()):=zio (zh2 (p:=fun c=>isB (kI 0 c) (zbj c)) (by kernel_rfl) c)
theorem zBn(N:Nat)(c:UInt8):zaT N c=some (zbj c,()):=zio (zh2 (p:=fun c=>isB (zaT 0 c) (zbj c)) (by kernel_rfl) c)
theorem zBr(N:Nat)(c:UInt8):xA N c=some (qA c,()):=zio (zh2 (p:=fun c=>isB (xA 0 c) (qA c)) (by kernel_rfl) c)
theorem zBT(N:Nat)(c:UInt8):zau N c=some (za0 c,()):=zio (zh2 (p:=fun c=>isB (zau 0 c) (za0 c)) (by kernel_rfl) c)
def run(p:UInt8->Bool):LB->Nat
 | []=>0
 |c::l=>if p c then run p l+1 else 0
theorem zpp(p:UInt8->Bool):∀ l:LB,run p l<=l.length
 | []=>yw _
 |c::l=>by
  unfold run
  split
  ·have:=zpp p l;simp;omega
  ·simp
theorem zlh(p:UInt8->Bool):∀ b:LB,(b.take (run p b)).all p=true
 | []=>rfl
 |c::l=>by
  unfold run
  cases h:p c with
  |true=>simpa [h] using zlh p l
  |false=>simp
theorem zfF{p:UInt8->Bool}{c:UInt8}(hp:p c=false):∀ (l:LB) (k:Nat),run p l<l.length->l[run p l]?=some c->ke c l k=((k+run p l:Nat):Int)
 | [],k,h,_=>by simp [run] at h
 |x::l,k,h,hc=>by
  unfold run at h hc |-
  cases hx:p x with
  |true=>
   simp only[hx,if_true] at h hc |-
   have hne:(x==c)=false:=by
    cases e:x==c with
    |false=>rfl
    |true=>rw[beq_iff_eq] at e;subst e;rw[hp] at hx;cases hx
   have:=zfF hp l (k+1) (by simpa using h) (by simpa using hc)
   simp only[ke,hne,yL,if_false,this]
   congr 1;omega
  |false=>
   simp only[hx,yL,if_false] at h hc |-
   simp only[List.getElem?_cons_zero,yo] at hc
   subst hc
   simp [ke]
theorem zlM{p:UInt8->Bool}{c:UInt8}(hp:p c=false):∀ (l:LB) (k:Nat),ke c l k=-1\/∃ i,ke c l k=((k+i:Nat):Int)/\i<l.length/\l[i]?=some c/\((l.take i).all p=true->run p l=i)
 | [],k=>.inl rfl
 |x::l,k=>by
  simp only[ke]
  cases e:x==c with
  |true=>
   rw[beq_iff_eq] at e;subst e
   exact .inr ⟨0,by simp,by simp,rfl,fun _=>by simp [run,hp]⟩
  |false=>
   simp only[yL,if_false]
   rcases zlM hp l (k+1) with h|⟨i,h1,h2,h3,h4⟩
   ·exact .inl h
   ·refine .inr ⟨i+1,by rw[h1];congr 1;omega,by simpa using h2,by simpa using h3,fun h=>?_⟩
    simp only[yD,vB,yJ] at h
    simp [run,h.1,h4 h.2]
theorem zB2(N:Nat)(s:LB)(hs:s.length<=100000):∀ (m i:Nat),i<=s.length->s.length<m+i ->
  je N m s (s.length:Int) (i:Int)=some (if(s.drop i).all xC=true then Sum.inr () else Sum.inl ())
 |0,i,h,h'=>by omega
 |m+1,i,h,h'=>by
  unfold je zcH
  by_cases hi:i<s.length
  ·simp only[zhP hi,cond_true,jh hi,yg,wO (u:=.u8) hi,zB3,ye,drop_one hi,vB]
   cases hc:xC s[i] with
   |true=>
    simp only[yu,cond_false,vC]
    rw[wri (by omega) (by omega),show((i:Int)+1)=((i+1:Nat):Int) by omega]
    exact zB2 N s hs m (i+1) (by omega) (by omega)
   |false=>simp
  ·simp only[zhO hi,cond_false]
   rw[yN (by omega)]
   simp
def zBm(b:LB):Option (LB×Int×Bool×Unit):=some (if 0<run xC b/\b[run xC b]?=some 32 then(b.take (run xC b),((run xC b+1:Nat):Int),true,()) else([],0,false,()))
theorem zhU:xC 32=false:=by kernel_rfl
theorem zvf(N:Nat)(b:LB)(hb:b.length<=100000)(hN:b.length<N):zbW N b=zBm b:=by
 unfold zbW zBm jG
 simp only[ye]
 rcases zlM zhU b 0 with h|⟨i,h1,h2,h3,h4⟩
 ·rw[h]
  simp only[show decide ((-1:Int)<1)=true from rfl,cond_true]
  rw[if_neg]
  intro⟨h1,h2⟩
  have hlt:=(yq.1 h2).1
  rw[zfF zhU b 0 hlt h2] at h
  omega
 ·rw[h1,vp]
  by_cases hi:i=0
  ·subst hi
   simp only[show decide (((0:Nat):Int)<1)=true from rfl,cond_true]
   rw[if_neg]
   intro⟨h5,h6⟩
   have hlt:=(yq.1 h6).1
   have:=zfF zhU b 0 hlt h6
   rw[h1] at this;omega
  ·have e1:decide (((i:Nat):Int)<1)=false:=by simp;omega
   have e4:=wR (a:=0) (b:=i) (n:=b.length) (by omega) (by omega)
   rw[show((0:Nat):Int)=(0:Int) from rfl] at e4
   simp only[e1,cond_false,e4,vC,cond_true,yg,wL]
   have hl:(b.take i).length=i:=by rw[yS];omega
   have e5:((b.take i) != ([]:LB))=true:=by
    simp only[bne_iff_ne,ne_eq]
    intro e;rw[e] at hl;simp at hl;omega
   simp only[e5,cond_true]
   have:=zB2 N (b.take i) (by omega) N 0 (by omega) (by omega)
   rw[show((0:Nat):Int)=(0:Int) from rfl,yI] at this
   rw[this]
   simp only[ye]
   cases ha:(b.take i).all xC with
   |true=>
    simp only[if_true,ze]
    have hr:=h4 ha
    rw[hr,if_pos ⟨by omega,h3⟩,wri (by omega) (by omega)]
    congr 2
   |false=>
    simp only[yL,if_false,ze]
    rw[if_neg]
    intro⟨h5,h6⟩
    have hlt:=(yq.1 h6).1
    have hf:=zfF zhU b 0 hlt h6
    rw[h1] at hf
    have hri:run xC b=i:=by omega
    have:=zlh xC b
    rw[hri] at this
    rw[this] at ha;cases ha
def sq:LB->Option (LB×Nat)
 | []=>none
 |c::l=>if c=34 then some ([],1) else if c=92 then match l with
  | []=>none
  |d::l=>if d=34\/d=92 then match sq l with
   |some (o,n)=>some (d::o,n+2)
   |none=>none
   else none
  else if zbj c=true then match sq l with
   |some (o,n)=>some (c::o,n+1)
   |none=>none
  else none
theorem zpy:∀ (l:LB) {o:LB} {n:Nat},sq l=some (o,n)->n<=l.length/\o.length<n
 | [],o,n,h=>by cases h
 |c::l,o,n,h=>by
  unfold sq at h
  split at h
  ·cases h;simp
  ·split at h
   ·split at h
    ·cases h
    ·rename_i d l'
     split at h
     ·split at h
      ·rename_i o' n' h'
       have:=zpy l' h'
       cases h
       simp;omega
      ·cases h
     ·cases h
   ·split at h
    ·split at h
     ·rename_i o' n' h'
      have:=zpy l h'
      cases h
      simp;omega
     ·cases h
    ·cases h
theorem zaj{n:Nat}(h:n<=200000):yk n zG=true:=by
 rw[vG];unfold zG;omega
theorem zuz:zbj 34=true:=by kernel_rfl
theorem zuy:zbj 92=true:=by kernel_rfl
def QP(b out:LB)(i:Nat)(o:Option (Bool×LB×Int×LB)):Prop:=match sq (b.drop i) with
 |some (r,n)=>o=some (true,b,((i+n:Nat):Int),out++r)
 |none=>∃ a o',o=some (false,b,a,o')
theorem zBf(N:Nat)(b:LB)(hb:b.length<=100000):∀ (m i:Nat) (out:LB),i<=b.length->out.length<=i->b.length<m+i->QP b out i (zN N m b (i:Int) out)
 |0,i,out,h,ho,h'=>by omega
 |m+1,i,out,h,ho,h'=>by
  unfold zN xS
  have d0:decide ((i:Int)<0)=false:=by simp
  by_cases hi:i<b.length
  ·have d1:decide (((b.length:Nat):Int)<=(i:Int))=false:=by simp;omega
   have w1:ya .i64 ((i:Int)+1)=((i+1:Nat):Int):=by rw[wri (by omega) (by omega)];omega
   have w2:ya .i64 (((i+1:Nat):Int)-1)=(i:Int):=by rw[wri (by omega) (by omega)];omega
   simp only[d0,d1,cond_false,w1,w2,jh hi,cond_true,yg,wO (u:=.u8) hi]
   unfold QP
   rw[drop_one hi]
   unfold sq
   cases hc:b[i]==(34:UInt8) with
   |true=>
    rw[beq_iff_eq] at hc
    simp [hc]
   |false=>
    have hc':¬ b[i]=34:=by simpa using hc
    simp only[cond_false,hc',if_false]
    cases hd:b[i]==(92:UInt8) with
    |true=>
     have hd':b[i]=92:=by simpa using hd
     have d2:decide (((i+1:Nat):Int)<0)=false:=by simp;omega
     simp only[cond_true,hd',if_true,d2,cond_false]
     by_cases hi2:i+1<b.length
     ·have d3:decide (((b.length:Nat):Int)<=((i+1:Nat):Int))=false:=by simp;omega
      have w3:ya .i64 (((i+1:Nat):Int)+1)=((i+2:Nat):Int):=by rw[wri (by omega) (by omega)];omega
      have w4:ya .i64 (((i+2:Nat):Int)-1)=((i+1:Nat):Int):=by rw[wri (by omega) (by omega)];omega
      simp only[d3,cond_false,w3,w4,jh hi2,cond_true,yg,wO (u:=.u8) hi2,zxH,ye,zaj (show out.length+1<=200000 by omega)]
      have ih:=zBf N b hb m (i+2) (out++[b[i+1]]) (by omega) (by simp;omega) (by omega)
      unfold QP at ih
      rw[drop_one hi2]
      simp only
      cases he:b[i+1] != (34:UInt8) with
      |true=>
       have he':¬ b[i+1]=34:=by simpa using he
       cases hf:b[i+1] != (92:UInt8) with
       |true=>
        have hf':¬ b[i+1]=92:=by simpa using hf
        simp only[cond_true,he',hf',or_self,if_false]
        exact⟨_,_,rfl⟩
       |false=>
        have hf':b[i+1]=92:=by simpa using hf
        rw[hf'] at ih
        simp only[cond_true,cond_false,hf',or_true,if_true,zuy,yu]
        split at ih
        ·rename_i r n hr
         (first|simp only[hr]|skip)
         rw[ih]
         simp only[yP,yB,yv,yo,yE,true_and,and_true]
         omega
        ·rename_i hr
         (first|simp only[hr]|skip)
         exact ih
      |false=>
       have he':b[i+1]=34:=by simpa using he
       rw[he'] at ih
       simp only[cond_false,he',true_or,if_true,zuz,yu]
       split at ih
       ·rename_i r n hr
        (first|simp only[hr]|skip)
        rw[ih]
        simp only[yP,yB,yv,yo,yE,true_and,and_true]
        omega
       ·rename_i hr
        (first|simp only[hr]|skip)
        exact ih
     ·have d3:decide (((b.length:Nat):Int)<=((i+1:Nat):Int))=true:=by simp;omega
      rw[yN (by omega)]
      simp only[d3,cond_true]
      exact⟨_,_,rfl⟩
    |false=>
     have hd':¬ b[i]=92:=by simpa using hd
     simp only[cond_false,hd',if_false,zxH,ye,zaj (show out.length+1<=200000 by omega),cond_true]
     cases ht:zbj b[i] with
     |true=>
      simp only[yu,cond_false,if_true]
      have ih:=zBf N b hb m (i+1) (out++[b[i]]) (by omega) (by simp;omega) (by omega)
      unfold QP at ih
      split at ih
      ·rename_i r n hr
       (first|simp only[hr]|skip)
       rw[ih]
       simp only[yP,yB,yv,yo,yE,true_and,and_true]
       omega
      ·rename_i hr
       (first|simp only[hr]|skip)
       exact ih
     |false=>
      simp only[yC,cond_true,yL,if_false]
      exact⟨_,_,rfl⟩
  ·have d1:decide (((b.length:Nat):Int)<=(i:Int))=true:=by simp;omega
   simp only[d0,d1,cond_false,cond_true]
   unfold QP
   rw[yN (by omega)]
   exact⟨_,_,rfl⟩
def zAk(b:LB)(i:Nat):Option (LB×Int×Bool×Unit):=some (match(if b[i]?=some 34 then sq (b.drop (i+1)) else none) with
 |some (r,n)=>(r,((i+1+n:Nat):Int),true,())
 |none=>([],0,false,()))
theorem zuB(N:Nat)(b:LB)(hb:b.length<=100000)(hN:b.length<N)(i:Nat)(hi:i<b.length):j5 N b (i:Int)=zAk b i:=by
 unfold j5 zAk
 have d0:decide ((i:Int)<0)=false:=by simp
 have d1:decide (((b.length:Nat):Int)<=(i:Int))=false:=by simp;omega
 have w1:ya .i64 ((i:Int)+1)=((i+1:Nat):Int):=by rw[wri (by omega) (by omega)];omega
 have w2:ya .i64 (((i+1:Nat):Int)-1)=(i:Int):=by rw[wri (by omega) (by omega)];omega
 simp only[d0,d1,cond_false,w1,w2,jh hi,cond_true,yg,wO (u:=.u8) hi,yi hi,yo]
 cases hc:b[i]==(34:UInt8) with
 |false=>
  have hc':¬ b[i]=34:=by simpa using hc
  simp [hc']
 |true=>
  have hc':b[i]=34:=by simpa using hc
  have:=zBf N b hb N (i+1) [] (by omega) (by simp) (by omega)
  unfold QP at this
  simp only[hc',if_true,yu,cond_false]
  split at this
  ·rename_i r n hr
   (first|simp only[hr]|skip)
   rw[this];rfl
  ·rename_i hr
   (first|simp only[hr]|skip)
   obtain⟨a,o',h⟩:=this
   rw[h];rfl
def dgt(n k:Nat):UInt8:=yf (48+n/k % 10)
theorem zhf(n:Nat):yh ((n:Nat):Int) 100=((n % 100:Nat):Int):=rfl
theorem zhg(n:Nat):yh ((n:Nat):Int) 10000=((n % 10000:Nat):Int):=rfl
theorem zhh(n:Nat):yh ((n:Nat):Int) 100000000=((n % 100000000:Nat):Int):=rfl
theorem zhc(n:Nat):yp ((n:Nat):Int) 100=((n/100:Nat):Int):=rfl
theorem zhd(n:Nat):yp ((n:Nat):Int) 10000=((n/10000:Nat):Int):=rfl
theorem zhe(n:Nat):yp ((n:Nat):Int) 100000000=((n/100000000:Nat):Int):=rfl
theorem zmp(n:Nat):((n:Nat):Int)*2=((n*2:Nat):Int):=rfl
theorem zh1(n:Nat):((n:Nat):Int)+1=((n+1:Nat):Int):=rfl
theorem zgS(n:Nat):(48:Int)+((n:Nat):Int)=((48+n:Nat):Int):=rfl
theorem zpG{n:Nat}(h:n<4294967296):ya .u32 ((n:Nat):Int)=((n:Nat):Int):=by rw[vK];omega
theorem zkc{n:Nat}(h:n<18446744073709551616):ya .u64 ((n:Nat):Int)=((n:Nat):Int):=by rw[vL];omega
theorem zcu{k:Nat}(h:k<100):nth .u8 zdJ (k*2)=yf (48+k/10):=by
 have key:((yZ 100).all fun k=>nth .u8 zdJ (k*2)==yf (48+k/10))=true:=by kernel_rfl
 rw[yR] at key
 exact beq_iff_eq.1 (key k (yV.2 h))
theorem zed{k:Nat}(h:k<100):nth .u8 zdJ (k*2+1)=yf (48+k % 10):=by
 have key:((yZ 100).all fun k=>nth .u8 zdJ (k*2+1)==yf (48+k % 10))=true:=by kernel_rfl
 rw[yR] at key
 exact beq_iff_eq.1 (key k (yV.2 h))
theorem xe{n:Nat}(h:n<256):zdC ((n:Nat):Int)=yf n:=by
 unfold zdC
 rw[vM,show(((n:Nat):Int) % 256).toNat=n by omega]
theorem zbh{n a b:Nat}(h:a=n/b % 10):yf (48+a)=dgt n b:=by rw[h];rfl
theorem zCl(N n:Nat)(hN:10<=N)(h1:100<=n)(h2:n<1000)(hm:n<4294967296)(hd:zr N ((n:Nat):Int)=some ((3:Int),())):zl N ((n:Nat):Int)=some ([dgt n 100,dgt n 10,dgt n 1],()):=by
 obtain⟨m,hm2⟩:∃ m,N=m+2:=⟨N-2,by omega⟩
 have hl:zd N N=zd N (m+2):=congrArg _ hm2
 have c0:decide (((n:Nat):Int)<100)=false:=by simp;omega
 unfold zl
 simp only[zkc (show n<18446744073709551616 by omega)]
 simp only[hd,hl,ye,c0,cond_false,cond_true,show wo (0:Int) (3:Int) 24=true from rfl,show((yc (3:Int))-0:Nat)=3 from rfl]
 unfold zd zE
 simp (disch:=omega) only[zpG,zkc,zhf,zhg,zhh,zhc,zhd,zhe,zmp,zh1,zgS,yg,jh,zcu,zed,xe,cond_true,cond_false,ye,
  show inb (0:Int) 3=true from rfl,show inb (1:Int) 3=true from rfl,show inb (2:Int) 3=true from rfl,show(0+yc (1:Int):Nat)=1 from rfl,show(0+yc (2:Int):Nat)=2 from rfl,show(0+0:Nat)=0 from rfl,show(0+3:Nat)=3 from rfl,show decide ((8:Int)<=((3:Nat):Int))=false from rfl,show decide ((4:Int)<=((3:Nat):Int))=false from rfl,show decide ((2:Int)<=((3:Nat):Int))=true from rfl,show ya .i64 (((3:Nat):Int)-(1:Int))=(2:Int) from rfl,show ya .i64 (((3:Nat):Int)-(2:Int))=(1:Int) from rfl,show decide ((0:Int)<(1:Int))=true from rfl]
 simp only[slice,yG,yH,yI,yD,yM,yU,yo,yE,yz,and_true]
 refine⟨?_,?_,?_⟩<;>exact zbh (by omega)
theorem zCm(N n:Nat)(hN:10<=N)(h1:1000<=n)(h2:n<10000)(hm:n<4294967296)(hd:zr N ((n:Nat):Int)=some ((4:Int),())):zl N ((n:Nat):Int)=some ([dgt n 1000,dgt n 100,dgt n 10,dgt n 1],()):=by
 obtain⟨m,hm2⟩:∃ m,N=m+2:=⟨N-2,by omega⟩
 have hl:zd N N=zd N (m+2):=congrArg _ hm2
 have c0:decide (((n:Nat):Int)<100)=false:=by simp;omega
 unfold zl
 simp only[zkc (show n<18446744073709551616 by omega)]
 simp only[hd,hl,ye,c0,cond_false,cond_true,show wo (0:Int) (4:Int) 24=true from rfl,show((yc (4:Int))-0:Nat)=4 from rfl]
 unfold zd zE
 simp (disch:=omega) only[zpG,zkc,zhf,zhg,zhh,zhc,zhd,zhe,zmp,zh1,zgS,yg,jh,zcu,zed,xe,cond_true,cond_false,ye,
  show inb (0:Int) 4=true from rfl,show inb (1:Int) 4=true from rfl,show inb (2:Int) 4=true from rfl,show inb (3:Int) 4=true from rfl,show(0+yc (0:Int):Nat)=0 from rfl,show(0+yc (1:Int):Nat)=1 from rfl,show(0+yc (2:Int):Nat)=2 from rfl,show(0+yc (3:Int):Nat)=3 from rfl,show(0+0:Nat)=0 from rfl,show(0+4:Nat)=4 from rfl,show decide ((8:Int)<=((4:Nat):Int))=false from rfl,show decide ((4:Int)<=((4:Nat):Int))=true from rfl,show ya .i64 (((4:Nat):Int)-(1:Int))=(3:Int) from rfl,show ya .i64 (((4:Nat):Int)-(2:Int))=(2:Int) from rfl,show ya .i64 (((4:Nat):Int)-(3:Int))=(1:Int) from rfl,show ya .i64 (((4:Nat):Int)-(4:Int))=(0:Int) from rfl,show decide ((2:Int)<=(0:Int))=false from rfl,show decide ((0:Int)<(0:Int))=false from rfl]
 simp only[slice,yG,yH,yI,yD,yM,yU,yo,yE,yz,and_true]
 refine⟨?_,?_,?_,?_⟩<;>exact zbh (by omega)
theorem zCn(N n:Nat)(hN:10<=N)(h1:10000<=n)(h2:n<100000)(hm:n<4294967296)(hd:zr N ((n:Nat):Int)=some ((5:Int),())):zl N ((n:Nat):Int)=some ([dgt n 10000,dgt n 1000,dgt n 100,dgt n 10,dgt n 1],()):=by
 obtain⟨m,hm2⟩:∃ m,N=m+2:=⟨N-2,by omega⟩
 have hl:zd N N=zd N (m+2):=congrArg _ hm2
 have c0:decide (((n:Nat):Int)<100)=false:=by simp;omega
 unfold zl
 simp only[zkc (show n<18446744073709551616 by omega)]
 simp only[hd,hl,ye,c0,cond_false,cond_true,show wo (0:Int) (5:Int) 24=true from rfl,show((yc (5:Int))-0:Nat)=5 from rfl]
 unfold zd zE
 simp (disch:=omega) only[zpG,zkc,zhf,zhg,zhh,zhc,zhd,zhe,zmp,zh1,zgS,yg,jh,zcu,zed,xe,cond_true,cond_false,ye,
  show inb (0:Int) 5=true from rfl,show inb (1:Int) 5=true from rfl,show inb (2:Int) 5=true from rfl,show inb (3:Int) 5=true from rfl,show inb (4:Int) 5=true from rfl,show(0+yc (1:Int):Nat)=1 from rfl,show(0+yc (2:Int):Nat)=2 from rfl,show(0+yc (3:Int):Nat)=3 from rfl,show(0+yc (4:Int):Nat)=4 from rfl,show(0+0:Nat)=0 from rfl,show(0+5:Nat)=5 from rfl,show decide ((8:Int)<=((5:Nat):Int))=false from rfl,show decide ((4:Int)<=((5:Nat):Int))=true from rfl,show ya .i64 (((5:Nat):Int)-(1:Int))=(4:Int) from rfl,show ya .i64 (((5:Nat):Int)-(2:Int))=(3:Int) from rfl,show ya .i64 (((5:Nat):Int)-(3:Int))=(2:Int) from rfl,show ya .i64 (((5:Nat):Int)-(4:Int))=(1:Int) from rfl,show decide ((2:Int)<=(1:Int))=false from rfl,show decide ((0:Int)<(1:Int))=true from rfl]
 simp only[slice,yG,yH,yI,yD,yM,yU,yo,yE,yz,and_true]
 refine⟨?_,?_,?_,?_,?_⟩<;>exact zbh (by omega)
theorem zCo(N n:Nat)(hN:10<=N)(h1:100000<=n)(h2:n<1000000)(hm:n<4294967296)(hd:zr N ((n:Nat):Int)=some ((6:Int),())):zl N ((n:Nat):Int)=some ([dgt n 100000,dgt n 10000,dgt n 1000,dgt n 100,dgt n 10,dgt n 1],()):=by
 obtain⟨m,hm2⟩:∃ m,N=m+2:=⟨N-2,by omega⟩
 have hl:zd N N=zd N (m+2):=congrArg _ hm2
 have c0:decide (((n:Nat):Int)<100)=false:=by simp;omega
 unfold zl
 simp only[zkc (show n<18446744073709551616 by omega)]
 simp only[hd,hl,ye,c0,cond_false,cond_true,show wo (0:Int) (6:Int) 24=true from rfl,show((yc (6:Int))-0:Nat)=6 from rfl]
 unfold zd zE
 simp (disch:=omega) only[zpG,zkc,zhf,zhg,zhh,zhc,zhd,zhe,zmp,zh1,zgS,yg,jh,zcu,zed,xe,cond_true,cond_false,ye,
  show inb (0:Int) 6=true from rfl,show inb (1:Int) 6=true from rfl,show inb (2:Int) 6=true from rfl,show inb (3:Int) 6=true from rfl,show inb (4:Int) 6=true from rfl,show inb (5:Int) 6=true from rfl,show(0+yc (0:Int):Nat)=0 from rfl,show(0+yc (1:Int):Nat)=1 from rfl,show(0+yc (2:Int):Nat)=2 from rfl,show(0+yc (3:Int):Nat)=3 from rfl,show(0+yc (4:Int):Nat)=4 from rfl,show(0+yc (5:Int):Nat)=5 from rfl,show(0+0:Nat)=0 from rfl,show(0+6:Nat)=6 from rfl,show decide ((8:Int)<=((6:Nat):Int))=false from rfl,show decide ((4:Int)<=((6:Nat):Int))=true from rfl,show ya .i64 (((6:Nat):Int)-(1:Int))=(5:Int) from rfl,show ya .i64 (((6:Nat):Int)-(2:Int))=(4:Int) from rfl,show ya .i64 (((6:Nat):Int)-(3:Int))=(3:Int) from rfl,show ya .i64 (((6:Nat):Int)-(4:Int))=(2:Int) from rfl,show decide ((2:Int)<=(2:Int))=true from rfl,show ya .i64 ((2:Int)-(1:Int))=(1:Int) from rfl,show ya .i64 ((2:Int)-(2:Int))=(0:Int) from rfl,show decide ((0:Int)<(0:Int))=false from rfl]
 simp only[slice,yG,yH,yI,yD,yM,yU,yo,yE,yz,and_true]
 refine⟨?_,?_,?_,?_,?_,?_⟩<;>exact zbh (by omega)
theorem zCp(N n:Nat)(hN:10<=N)(h1:1000000<=n)(h2:n<10000000)(hm:n<4294967296)(hd:zr N ((n:Nat):Int)=some ((7:Int),())):zl N ((n:Nat):Int)=some ([dgt n 1000000,dgt n 100000,dgt n 10000,dgt n 1000,dgt n 100,dgt n 10,dgt n 1],()):=by
 obtain⟨m,hm2⟩:∃ m,N=m+2:=⟨N-2,by omega⟩
 have hl:zd N N=zd N (m+2):=congrArg _ hm2
 have c0:decide (((n:Nat):Int)<100)=false:=by simp;omega
 unfold zl
 simp only[zkc (show n<18446744073709551616 by omega)]
 simp only[hd,hl,ye,c0,cond_false,cond_true,show wo (0:Int) (7:Int) 24=true from rfl,show((yc (7:Int))-0:Nat)=7 from rfl]
 unfold zd zE
 simp (disch:=omega) only[zpG,zkc,zhf,zhg,zhh,zhc,zhd,zhe,zmp,zh1,zgS,yg,jh,zcu,zed,xe,cond_true,cond_false,ye,
  show inb (0:Int) 7=true from rfl,show inb (1:Int) 7=true from rfl,show inb (2:Int) 7=true from rfl,show inb (3:Int) 7=true from rfl,show inb (4:Int) 7=true from rfl,show inb (5:Int) 7=true from rfl,show inb (6:Int) 7=true from rfl,show(0+yc (1:Int):Nat)=1 from rfl,show(0+yc (2:Int):Nat)=2 from rfl,show(0+yc (3:Int):Nat)=3 from rfl,show(0+yc (4:Int):Nat)=4 from rfl,show(0+yc (5:Int):Nat)=5 from rfl,show(0+yc (6:Int):Nat)=6 from rfl,show(0+0:Nat)=0 from rfl,show(0+7:Nat)=7 from rfl,show decide ((8:Int)<=((7:Nat):Int))=false from rfl,show decide ((4:Int)<=((7:Nat):Int))=true from rfl,show ya .i64 (((7:Nat):Int)-(1:Int))=(6:Int) from rfl,show ya .i64 (((7:Nat):Int)-(2:Int))=(5:Int) from rfl,show ya .i64 (((7:Nat):Int)-(3:Int))=(4:Int) from rfl,show ya .i64 (((7:Nat):Int)-(4:Int))=(3:Int) from rfl,show decide ((2:Int)<=(3:Int))=true from rfl,show ya .i64 ((3:Int)-(1:Int))=(2:Int) from rfl,show ya .i64 ((3:Int)-(2:Int))=(1:Int) from rfl,show decide ((0:Int)<(1:Int))=true from rfl]
 simp only[slice,yG,yH,yI,yD,yM,yU,yo,yE,yz,and_true]
 refine⟨?_,?_,?_,?_,?_,?_,?_⟩<;>exact zbh (by omega)
theorem zCq(N n:Nat)(hN:10<=N)(h1:10000000<=n)(h2:n<100000000)(hm:n<4294967296)(hd:zr N ((n:Nat):Int)=some ((8:Int),())):zl N ((n:Nat):Int)=some ([dgt n 10000000,dgt n 1000000,dgt n 100000,dgt n 10000,dgt n 1000,dgt n 100,dgt n 10,dgt n 1],()):=by
 obtain⟨m,hm2⟩:∃ m,N=m+2:=⟨N-2,by omega⟩
 have hl:zd N N=zd N (m+2):=congrArg _ hm2
 have c0:decide (((n:Nat):Int)<100)=false:=by simp;omega
 unfold zl
 simp only[zkc (show n<18446744073709551616 by omega)]
 simp only[hd,hl,ye,c0,cond_false,cond_true,show wo (0:Int) (8:Int) 24=true from rfl,show((yc (8:Int))-0:Nat)=8 from rfl]
 unfold zd zE
 unfold zd zE
 simp (disch:=omega) only[zpG,zkc,zhf,zhg,zhh,zhc,zhd,zhe,zmp,zh1,zgS,yg,jh,zcu,zed,xe,cond_true,cond_false,ye,
  show inb (0:Int) 8=true from rfl,show inb (1:Int) 8=true from rfl,show inb (2:Int) 8=true from rfl,show inb (3:Int) 8=true from rfl,show inb (4:Int) 8=true from rfl,show inb (5:Int) 8=true from rfl,show inb (6:Int) 8=true from rfl,show inb (7:Int) 8=true from rfl,show(0+yc (0:Int):Nat)=0 from rfl,show(0+yc (1:Int):Nat)=1 from rfl,show(0+yc (2:Int):Nat)=2 from rfl,show(0+yc (3:Int):Nat)=3 from rfl,show(0+yc (4:Int):Nat)=4 from rfl,show(0+yc (5:Int):Nat)=5 from rfl,show(0+yc (6:Int):Nat)=6 from rfl,show(0+yc (7:Int):Nat)=7 from rfl,show(0+0:Nat)=0 from rfl,show(0+8:Nat)=8 from rfl,show decide ((8:Int)<=((8:Nat):Int))=true from rfl,show ya .i64 (((8:Nat):Int)-(1:Int))=(7:Int) from rfl,show ya .i64 (((8:Nat):Int)-(2:Int))=(6:Int) from rfl,show ya .i64 (((8:Nat):Int)-(3:Int))=(5:Int) from rfl,show ya .i64 (((8:Nat):Int)-(4:Int))=(4:Int) from rfl,show ya .i64 (((8:Nat):Int)-(5:Int))=(3:Int) from rfl,show ya .i64 (((8:Nat):Int)-(6:Int))=(2:Int) from rfl,show ya .i64 (((8:Nat):Int)-(7:Int))=(1:Int) from rfl,show ya .i64 (((8:Nat):Int)-(8:Int))=(0:Int) from rfl,show decide ((8:Int)<=(0:Int))=false from rfl,show decide ((4:Int)<=(0:Int))=false from rfl,show decide ((2:Int)<=(0:Int))=false from rfl,show decide ((0:Int)<(0:Int))=false from rfl]
 simp only[slice,yG,yH,yI,yD,yM,yU,yo,yE,yz,and_true]
 refine⟨?_,?_,?_,?_,?_,?_,?_,?_⟩<;>exact zbh (by omega)
theorem zCr(N n:Nat)(hN:10<=N)(h1:100000000<=n)(h2:n<1000000000)(hm:n<4294967296)(hd:zr N ((n:Nat):Int)=some ((9:Int),())):zl N ((n:Nat):Int)=some ([dgt n 100000000,dgt n 10000000,dgt n 1000000,dgt n 100000,dgt n 10000,dgt n 1000,dgt n 100,dgt n 10,dgt n 1],()):=by
 obtain⟨m,hm2⟩:∃ m,N=m+2:=⟨N-2,by omega⟩
 have hl:zd N N=zd N (m+2):=congrArg _ hm2
 have c0:decide (((n:Nat):Int)<100)=false:=by simp;omega
 unfold zl
 simp only[zkc (show n<18446744073709551616 by omega)]
 simp only[hd,hl,ye,c0,cond_false,cond_true,show wo (0:Int) (9:Int) 24=true from rfl,show((yc (9:Int))-0:Nat)=9 from rfl]
 unfold zd zE
 unfold zd zE
 simp (disch:=omega) only[zpG,zkc,zhf,zhg,zhh,zhc,zhd,zhe,zmp,zh1,zgS,yg,jh,zcu,zed,xe,cond_true,cond_false,ye,
  show inb (0:Int) 9=true from rfl,show inb (1:Int) 9=true from rfl,show inb (2:Int) 9=true from rfl,show inb (3:Int) 9=true from rfl,show inb (4:Int) 9=true from rfl,show inb (5:Int) 9=true from rfl,show inb (6:Int) 9=true from rfl,show inb (7:Int) 9=true from rfl,show inb (8:Int) 9=true from rfl,show(0+yc (1:Int):Nat)=1 from rfl,show(0+yc (2:Int):Nat)=2 from rfl,show(0+yc (3:Int):Nat)=3 from rfl,show(0+yc (4:Int):Nat)=4 from rfl,show(0+yc (5:Int):Nat)=5 from rfl,show(0+yc (6:Int):Nat)=6 from rfl,show(0+yc (7:Int):Nat)=7 from rfl,show(0+yc (8:Int):Nat)=8 from rfl,show(0+0:Nat)=0 from rfl,show(0+9:Nat)=9 from rfl,show decide ((8:Int)<=((9:Nat):Int))=true from rfl,show ya .i64 (((9:Nat):Int)-(1:Int))=(8:Int) from rfl,show ya .i64 (((9:Nat):Int)-(2:Int))=(7:Int) from rfl,show ya .i64 (((9:Nat):Int)-(3:Int))=(6:Int) from rfl,show ya .i64 (((9:Nat):Int)-(4:Int))=(5:Int) from rfl,show ya .i64 (((9:Nat):Int)-(5:Int))=(4:Int) from rfl,show ya .i64 (((9:Nat):Int)-(6:Int))=(3:Int) from rfl,show ya .i64 (((9:Nat):Int)-(7:Int))=(2:Int) from rfl,show ya .i64 (((9:Nat):Int)-(8:Int))=(1:Int) from rfl,show decide ((8:Int)<=(1:Int))=false from rfl,show decide ((4:Int)<=(1:Int))=false from rfl,show decide ((2:Int)<=(1:Int))=false from rfl,show decide ((0:Int)<(1:Int))=true from rfl]
 simp only[slice,yG,yH,yI,yD,yM,yU,yo,yE,yz,and_true]
 refine⟨?_,?_,?_,?_,?_,?_,?_,?_,?_⟩<;>exact zbh (by omega)
theorem zA4(N n:Nat)(hN:10<=N)(h1:1000000000<=n)(h2:n<10000000000)(hm:n<4294967296)(hd:zr N ((n:Nat):Int)=some ((10:Int),())):zl N ((n:Nat):Int)=some ([dgt n 1000000000,dgt n 100000000,dgt n 10000000,dgt n 1000000,dgt n 100000,dgt n 10000,dgt n 1000,dgt n 100,dgt n 10,dgt n 1],()):=by
 obtain⟨m,hm2⟩:∃ m,N=m+2:=⟨N-2,by omega⟩
 have hl:zd N N=zd N (m+2):=congrArg _ hm2
 have c0:decide (((n:Nat):Int)<100)=false:=by simp;omega
 unfold zl
 simp only[zkc (show n<18446744073709551616 by omega)]
 simp only[hd,hl,ye,c0,cond_false,cond_true,show wo (0:Int) (10:Int) 24=true from rfl,show((yc (10:Int))-0:Nat)=10 from rfl]
 unfold zd zE
 unfold zd zE
 simp (disch:=omega) only[zpG,zkc,zhf,zhg,zhh,zhc,zhd,zhe,zmp,zh1,zgS,yg,jh,zcu,zed,xe,cond_true,cond_false,ye,
  show inb (0:Int) 10=true from rfl,show inb (1:Int) 10=true from rfl,show inb (2:Int) 10=true from rfl,show inb (3:Int) 10=true from rfl,show inb (4:Int) 10=true from rfl,show inb (5:Int) 10=true from rfl,show inb (6:Int) 10=true from rfl,show inb (7:Int) 10=true from rfl,show inb (8:Int) 10=true from rfl,show inb (9:Int) 10=true from rfl,show(0+yc (0:Int):Nat)=0 from rfl,show(0+yc (1:Int):Nat)=1 from rfl,show(0+yc (2:Int):Nat)=2 from rfl,show(0+yc (3:Int):Nat)=3 from rfl,show(0+yc (4:Int):Nat)=4 from rfl,show(0+yc (5:Int):Nat)=5 from rfl,show(0+yc (6:Int):Nat)=6 from rfl,show(0+yc (7:Int):Nat)=7 from rfl,show(0+yc (8:Int):Nat)=8 from rfl,show(0+yc (9:Int):Nat)=9 from rfl,show(0+0:Nat)=0 from rfl,show(0+10:Nat)=10 from rfl,show decide ((8:Int)<=((10:Nat):Int))=true from rfl,show ya .i64 (((10:Nat):Int)-(1:Int))=(9:Int) from rfl,show ya .i64 (((10:Nat):Int)-(2:Int))=(8:Int) from rfl,show ya .i64 (((10:Nat):Int)-(3:Int))=(7:Int) from rfl,show ya .i64 (((10:Nat):Int)-(4:Int))=(6:Int) from rfl,show ya .i64 (((10:Nat):Int)-(5:Int))=(5:Int) from rfl,show ya .i64 (((10:Nat):Int)-(6:Int))=(4:Int) from rfl,show ya .i64 (((10:Nat):Int)-(7:Int))=(3:Int) from rfl,show ya .i64 (((10:Nat):Int)-(8:Int))=(2:Int) from rfl,show decide ((8:Int)<=(2:Int))=false from rfl,show decide ((4:Int)<=(2:Int))=false from rfl,show decide ((2:Int)<=(2:Int))=true from rfl,show ya .i64 ((2:Int)-(1:Int))=(1:Int) from rfl,show ya .i64 ((2:Int)-(2:Int))=(0:Int) from rfl,show decide ((0:Int)<(0:Int))=false from rfl]
 simp only[slice,yG,yH,yI,yD,yM,yU,yo,yE,yz,and_true]
 refine⟨?_,?_,?_,?_,?_,?_,?_,?_,?_,?_⟩<;>exact zbh (by omega)
theorem zrc(n m:Nat):yy ((n:Nat):Int) ((m:Nat):Int)=((n/m:Nat):Int):=by
 rw[Int.fdiv_eq_ediv_of_nonneg _ (by omega)];rfl
theorem p8:((2:Int) ^ (min (yc (8:Int)) (yj .u64)))=((256:Nat):Int):=rfl
theorem p16:((2:Int) ^ (min (yc (16:Int)) (yj .u64)))=((65536:Nat):Int):=rfl
theorem p18:((2:Int) ^ (min (yc (18:Int)) (yj .i64)))=((262144:Nat):Int):=rfl
def tL(k:Nat):Nat:=(nth .u8 ztL k).toNat
theorem zto{k:Nat}(h:k<256)(h0:0<k):2 ^ (tL k-1)<=k/\k<2 ^ tL k/\1<=tL k/\tL k<=8:=by
 have key:((yZ 256).all fun k=>k==0||(yF (2 ^ (tL k-1)) k&&(yk k (2 ^ tL k)&&(yF 1 (tL k)&&yF (tL k) 8))))=true:=by kernel_rfl
 rw[yR] at key
 have:=key k (yV.2 h)
 simp only[Bool.or_eq_true,yJ,beq_iff_eq,vG] at this
 rcases this with h1|⟨h1,h2,h3,h4⟩
 ·omega
 ·exact⟨yO h1,h2,yO h3,yO h4⟩
theorem u8n{k:Nat}(h:k<256):ym (zdC ((k:Nat):Int))=k:=by
 rw[xe h,UInt8.toNat_ofNat'];omega
theorem zBa(N n:Nat)(h0:0<n)(h:n<4294967296):∃ L:Nat,1<=L/\L<=32/\2 ^ (L-1)<=n/\n<2 ^ L/\wB N ((n:Nat):Int)=some ((L:Int),()):=by
 have c1:decide ((4294967296:Int)<=((n:Nat):Int))=false:=by simp;omega
 unfold wB
 simp only[c1,cond_false,p8,p16,zrc]
 have fin:∀ (b k:Nat),k<256->0<k->b<=24->2 ^ b*k<=n->n<2 ^ b*(k+1)->∃ L:Nat,1<=L/\L<=32/\2 ^ (L-1)<=n/\n<2 ^ L/\(some (((b+tL k:Nat):Int),()):Option (Int×Unit))=some ((L:Int),()):=by
  intro b k hk hk0 hb h1 h2
  obtain⟨q1,q2,q3,q4⟩:=zto hk hk0
  refine⟨b+tL k,by omega,by omega,?_,?_,rfl⟩
  ·rw[show b+tL k-1=b+(tL k-1) by omega,vF]
   exact vq (vy _ q1) h1
  ·rw[vF]
   exact vg h2 (vy _ q2)
 have val:∀ (b k:Nat),k<256->b<=24->0<k->ya .i64 (((b:Nat):Int)+ya .i64 ((ym (nth .u8 ztL (yc ((ym (zdC ((k:Nat):Int)):Nat):Int))):Nat):Int))=((b+tL k:Nat):Int):=by
  intro b k hk hb hk0
  have:=zto hk hk0
  rw[u8n hk,yg]
  show ya .i64 (((b:Nat):Int)+ya .i64 ((tL k:Nat):Int))=_
  rw[wri (x:=((tL k:Nat):Int)) (by omega) (by omega),wri (by omega) (by omega)];omega
 by_cases a1:65536<=n
 ·have c2:decide ((65536:Int)<=((n:Nat):Int))=true:=by simp;omega
  simp only[c2,cond_true]
  by_cases a2:256<=n/65536
  ·have c3:decide ((256:Int)<=((n/65536:Nat):Int))=true:=by simp only[decide_eq_true_eq];omega
   have hk:n/65536/256<256:=by omega
   simp only[c3,cond_true]
   rw[u8n hk,jh hk,cond_true,<- u8n hk]
   have:=val 24 (n/65536/256) hk (by omega) (by omega)
   rw[u8n hk] at this |-
   rw[show((24:Nat):Int)=(24:Int) from rfl] at this
   rw[this]
   exact fin 24 _ hk (by omega) (by omega) (by omega) (by omega)
  ·have c3:decide ((256:Int)<=((n/65536:Nat):Int))=false:=by simp only[decide_eq_false_iff_not];omega
   have hk:n/65536<256:=by omega
   simp only[c3,cond_false]
   rw[u8n hk,jh hk,cond_true]
   have:=val 16 (n/65536) hk (by omega) (by omega)
   rw[u8n hk,show((16:Nat):Int)=(16:Int) from rfl] at this
   rw[this]
   exact fin 16 _ hk (by omega) (by omega) (by omega) (by omega)
 ·have c2:decide ((65536:Int)<=((n:Nat):Int))=false:=by simp;omega
  simp only[c2,cond_false]
  by_cases a2:256<=n
  ·have c3:decide ((256:Int)<=((n:Nat):Int))=true:=by simp;omega
   have hk:n/256<256:=by omega
   simp only[c3,cond_true]
   rw[u8n hk,jh hk,cond_true]
   have:=val 8 (n/256) hk (by omega) (by omega)
   rw[u8n hk,show((8:Nat):Int)=(8:Int) from rfl] at this
   rw[this]
   exact fin 8 _ hk (by omega) (by omega) (by omega) (by omega)
  ·have c3:decide ((256:Int)<=((n:Nat):Int))=false:=by simp;omega
   have hk:n<256:=by omega
   simp only[c3,cond_false]
   rw[u8n hk,jh hk,cond_true]
   have:=val 0 n hk (by omega) (by omega)
   rw[u8n hk,show((0:Nat):Int)=(0:Int) from rfl] at this
   rw[this]
   exact fin 0 _ hk (by omega) (by omega) (by omega) (by omega)
def zBe:List Int:=[1,10,100,1000,10000,100000,1000000,10000000,100000000,1000000000,10000000000,100000000000,1000000000000,10000000000000,100000000000000,1000000000000000,10000000000000000,100000000000000000,1000000000000000000,10000000000000000000]
def pw(k:Nat):Int:=nth (.int .u64) zBe k
theorem digits(N n:Nat)(h0:0<n)(h:n<4294967296):∃ L:Nat,1<=L/\L<=32/\2 ^ (L-1)<=n/\n<2 ^ L/\zr N ((n:Nat):Int)=some (((L*78913/262144+(if pw (L*78913/262144)<=(n:Int) then 1 else 0):Nat):Int),()):=by
 obtain⟨L,h1,h2,h3,h4,h5⟩:=zBa N n h0 h
 refine⟨L,h1,h2,h3,h4,?_⟩
 unfold zr ka wZ
 simp only[h5,ye,p18]
 rw[wri (by omega) (by omega),show((L:Nat):Int)*78913=((L*78913:Nat):Int) from rfl,zrc]
 have ht:L*78913/262144<20:=by omega
 simp only[jh ht,Bool.and_self,cond_true,yg]
 show yd (cond (decide (pw (L*78913/262144)<=(n:Int))) (some ((1:Int),())) (some ((0:Int),()))) _=_
 by_cases hc:pw (L*78913/262144)<=(n:Int)
 ·rw[decide_eq_true hc,if_pos hc]
  simp only[cond_true,ye]
  rw[wri (by omega) (by omega)];rfl
 ·rw[decide_eq_false hc,if_neg hc]
  simp only[cond_false,ye]
  rw[wri (by omega) (by omega)];rfl
theorem zvP(N n d:Nat)(h0:100<=n)(h:n<4294967296)(h1:3<=d)(h2:d<=10)(h3:10 ^ (d-1)<=n)(h4:n<10 ^ d):zr N ((n:Nat):Int)=some (((d:Nat):Int),()):=by
 obtain⟨L,q1,q2,q3,q4,q5⟩:=digits N n (by omega) h
 rw[q5]
 clear q5
 have hL:L=1\/L=2\/L=3\/L=4\/L=5\/L=6\/L=7\/L=8\/L=9\/L=10\/L=11\/L=12\/L=13\/L=14\/L=15\/L=16\/L=17\/L=18\/L=19\/L=20\/L=21\/L=22\/L=23\/L=24\/L=25\/L=26\/L=27\/L=28\/L=29\/L=30\/L=31\/L=32:=by omega
 have hd:d=3\/d=4\/d=5\/d=6\/d=7\/d=8\/d=9\/d=10:=by omega
 have fin:L*78913/262144+(if pw (L*78913/262144)<=(n:Int) then 1 else 0)=d:=by
  rcases hd with rfl|rfl|rfl|rfl|rfl|rfl|rfl|rfl<;>simp only[vD,vE] at h3 h4
  all_goals
   rcases hL with rfl|rfl|rfl|rfl|rfl|rfl|rfl|rfl|rfl|rfl|rfl|rfl|rfl|rfl|rfl|rfl|rfl|rfl|rfl|rfl|rfl|rfl|rfl|rfl|rfl|rfl|rfl|rfl|rfl|rfl|rfl|rfl<;>simp only[vD,vE] at q3 q4<;>first
    |(exfalso;omega;done)
    |(simp only[Nat.reduceMul,Nat.reduceDiv,show pw 2=100 from rfl,show pw 3=1000 from rfl,show pw 4=10000 from rfl,show pw 5=100000 from rfl,show pw 6=1000000 from rfl,show pw 7=10000000 from rfl,show pw 8=100000000 from rfl,show pw 9=1000000000 from rfl];split<;>omega)
 rw[fin]
def jg:Nat->Nat->LB
 |0,_=>[]
 |f+1,n=>if n<10 then[yf (48+n)] else jg f (n/10)++[yf (48+n % 10)]
def dec(n:Nat):LB:=jg 10 n
theorem zCd(n:Nat)(h1:100<=n)(h2:n<1000):dec n=[dgt n 100,dgt n 10,dgt n 1]:=by
 unfold dec
 rw[show jg 10 (n)=jg 9 (n/10)++[yf (48+n % 10)] from if_neg (by omega)]
 rw[show jg 9 (n/10)=jg 8 (n/10/10)++[yf (48+n/10 % 10)] from if_neg (by omega)]
 rw[show jg 8 (n/10/10)=[yf (48+n/10/10)] from if_pos (by omega)]
 simp only[yB,yv,yz,and_true]
 refine⟨?_,?_,?_⟩<;>exact zbh (by omega)
theorem zCe(n:Nat)(h1:1000<=n)(h2:n<10000):dec n=[dgt n 1000,dgt n 100,dgt n 10,dgt n 1]:=by
 unfold dec
 rw[show jg 10 (n)=jg 9 (n/10)++[yf (48+n % 10)] from if_neg (by omega)]
 rw[show jg 9 (n/10)=jg 8 (n/10/10)++[yf (48+n/10 % 10)] from if_neg (by omega)]
 rw[show jg 8 (n/10/10)=jg 7 (n/10/10/10)++[yf (48+n/10/10 % 10)] from if_neg (by omega)]
 rw[show jg 7 (n/10/10/10)=[yf (48+n/10/10/10)] from if_pos (by omega)]
 simp only[yB,yv,yz,and_true]
 refine⟨?_,?_,?_,?_⟩<;>exact zbh (by omega)
theorem zCf(n:Nat)(h1:10000<=n)(h2:n<100000):dec n=[dgt n 10000,dgt n 1000,dgt n 100,dgt n 10,dgt n 1]:=by
 unfold dec
 rw[show jg 10 (n)=jg 9 (n/10)++[yf (48+n % 10)] from if_neg (by omega)]
 rw[show jg 9 (n/10)=jg 8 (n/10/10)++[yf (48+n/10 % 10)] from if_neg (by omega)]
 rw[show jg 8 (n/10/10)=jg 7 (n/10/10/10)++[yf (48+n/10/10 % 10)] from if_neg (by omega)]
 rw[show jg 7 (n/10/10/10)=jg 6 (n/10/10/10/10)++[yf (48+n/10/10/10 % 10)] from if_neg (by omega)]
 rw[show jg 6 (n/10/10/10/10)=[yf (48+n/10/10/10/10)] from if_pos (by omega)]
 simp only[yB,yv,yz,and_true]
 refine⟨?_,?_,?_,?_,?_⟩<;>exact zbh (by omega)
theorem zCg(n:Nat)(h1:100000<=n)(h2:n<1000000):dec n=[dgt n 100000,dgt n 10000,dgt n 1000,dgt n 100,dgt n 10,dgt n 1]:=by
 unfold dec
 rw[show jg 10 (n)=jg 9 (n/10)++[yf (48+n % 10)] from if_neg (by omega)]
 rw[show jg 9 (n/10)=jg 8 (n/10/10)++[yf (48+n/10 % 10)] from if_neg (by omega)]
 rw[show jg 8 (n/10/10)=jg 7 (n/10/10/10)++[yf (48+n/10/10 % 10)] from if_neg (by omega)]
 rw[show jg 7 (n/10/10/10)=jg 6 (n/10/10/10/10)++[yf (48+n/10/10/10 % 10)] from if_neg (by omega)]
 rw[show jg 6 (n/10/10/10/10)=jg 5 (n/10/10/10/10/10)++[yf (48+n/10/10/10/10 % 10)] from if_neg (by omega)]
 rw[show jg 5 (n/10/10/10/10/10)=[yf (48+n/10/10/10/10/10)] from if_pos (by omega)]
 simp only[yB,yv,yz,and_true]
 refine⟨?_,?_,?_,?_,?_,?_⟩<;>exact zbh (by omega)
theorem zCh(n:Nat)(h1:1000000<=n)(h2:n<10000000):dec n=[dgt n 1000000,dgt n 100000,dgt n 10000,dgt n 1000,dgt n 100,dgt n 10,dgt n 1]:=by
 unfold dec
 rw[show jg 10 (n)=jg 9 (n/10)++[yf (48+n % 10)] from if_neg (by omega)]
 rw[show jg 9 (n/10)=jg 8 (n/10/10)++[yf (48+n/10 % 10)] from if_neg (by omega)]
 rw[show jg 8 (n/10/10)=jg 7 (n/10/10/10)++[yf (48+n/10/10 % 10)] from if_neg (by omega)]
 rw[show jg 7 (n/10/10/10)=jg 6 (n/10/10/10/10)++[yf (48+n/10/10/10 % 10)] from if_neg (by omega)]
 rw[show jg 6 (n/10/10/10/10)=jg 5 (n/10/10/10/10/10)++[yf (48+n/10/10/10/10 % 10)] from if_neg (by omega)]
 rw[show jg 5 (n/10/10/10/10/10)=jg 4 (n/10/10/10/10/10/10)++[yf (48+n/10/10/10/10/10 % 10)] from if_neg (by omega)]
 rw[show jg 4 (n/10/10/10/10/10/10)=[yf (48+n/10/10/10/10/10/10)] from if_pos (by omega)]
 simp only[yB,yv,yz,and_true]
 refine⟨?_,?_,?_,?_,?_,?_,?_⟩<;>exact zbh (by omega)
theorem zCi(n:Nat)(h1:10000000<=n)(h2:n<100000000):dec n=[dgt n 10000000,dgt n 1000000,dgt n 100000,dgt n 10000,dgt n 1000,dgt n 100,dgt n 10,dgt n 1]:=by
 unfold dec
 rw[show jg 10 (n)=jg 9 (n/10)++[yf (48+n % 10)] from if_neg (by omega)]
 rw[show jg 9 (n/10)=jg 8 (n/10/10)++[yf (48+n/10 % 10)] from if_neg (by omega)]
 rw[show jg 8 (n/10/10)=jg 7 (n/10/10/10)++[yf (48+n/10/10 % 10)] from if_neg (by omega)]
 rw[show jg 7 (n/10/10/10)=jg 6 (n/10/10/10/10)++[yf (48+n/10/10/10 % 10)] from if_neg (by omega)]
 rw[show jg 6 (n/10/10/10/10)=jg 5 (n/10/10/10/10/10)++[yf (48+n/10/10/10/10 % 10)] from if_neg (by omega)]
 rw[show jg 5 (n/10/10/10/10/10)=jg 4 (n/10/10/10/10/10/10)++[yf (48+n/10/10/10/10/10 % 10)] from if_neg (by omega)]
 rw[show jg 4 (n/10/10/10/10/10/10)=jg 3 (n/10/10/10/10/10/10/10)++[yf (48+n/10/10/10/10/10/10 % 10)] from if_neg (by omega)]
 rw[show jg 3 (n/10/10/10/10/10/10/10)=[yf (48+n/10/10/10/10/10/10/10)] from if_pos (by omega)]
 simp only[yB,yv,yz,and_true]
 refine⟨?_,?_,?_,?_,?_,?_,?_,?_⟩<;>exact zbh (by omega)
theorem zCj(n:Nat)(h1:100000000<=n)(h2:n<1000000000):dec n=[dgt n 100000000,dgt n 10000000,dgt n 1000000,dgt n 100000,dgt n 10000,dgt n 1000,dgt n 100,dgt n 10,dgt n 1]:=by
 unfold dec
 rw[show jg 10 (n)=jg 9 (n/10)++[yf (48+n % 10)] from if_neg (by omega)]
 rw[show jg 9 (n/10)=jg 8 (n/10/10)++[yf (48+n/10 % 10)] from if_neg (by omega)]
 rw[show jg 8 (n/10/10)=jg 7 (n/10/10/10)++[yf (48+n/10/10 % 10)] from if_neg (by omega)]
 rw[show jg 7 (n/10/10/10)=jg 6 (n/10/10/10/10)++[yf (48+n/10/10/10 % 10)] from if_neg (by omega)]
 rw[show jg 6 (n/10/10/10/10)=jg 5 (n/10/10/10/10/10)++[yf (48+n/10/10/10/10 % 10)] from if_neg (by omega)]
 rw[show jg 5 (n/10/10/10/10/10)=jg 4 (n/10/10/10/10/10/10)++[yf (48+n/10/10/10/10/10 % 10)] from if_neg (by omega)]
 rw[show jg 4 (n/10/10/10/10/10/10)=jg 3 (n/10/10/10/10/10/10/10)++[yf (48+n/10/10/10/10/10/10 % 10)] from if_neg (by omega)]
 rw[show jg 3 (n/10/10/10/10/10/10/10)=jg 2 (n/10/10/10/10/10/10/10/10)++[yf (48+n/10/10/10/10/10/10/10 % 10)] from if_neg (by omega)]
 rw[show jg 2 (n/10/10/10/10/10/10/10/10)=[yf (48+n/10/10/10/10/10/10/10/10)] from if_pos (by omega)]
 simp only[yB,yv,yz,and_true]
 refine⟨?_,?_,?_,?_,?_,?_,?_,?_,?_⟩<;>exact zbh (by omega)
theorem zA2(n:Nat)(h1:1000000000<=n)(h2:n<10000000000):dec n=[dgt n 1000000000,dgt n 100000000,dgt n 10000000,dgt n 1000000,dgt n 100000,dgt n 10000,dgt n 1000,dgt n 100,dgt n 10,dgt n 1]:=by
 unfold dec
 rw[show jg 10 (n)=jg 9 (n/10)++[yf (48+n % 10)] from if_neg (by omega)]
 rw[show jg 9 (n/10)=jg 8 (n/10/10)++[yf (48+n/10 % 10)] from if_neg (by omega)]
 rw[show jg 8 (n/10/10)=jg 7 (n/10/10/10)++[yf (48+n/10/10 % 10)] from if_neg (by omega)]
 rw[show jg 7 (n/10/10/10)=jg 6 (n/10/10/10/10)++[yf (48+n/10/10/10 % 10)] from if_neg (by omega)]
 rw[show jg 6 (n/10/10/10/10)=jg 5 (n/10/10/10/10/10)++[yf (48+n/10/10/10/10 % 10)] from if_neg (by omega)]
 rw[show jg 5 (n/10/10/10/10/10)=jg 4 (n/10/10/10/10/10/10)++[yf (48+n/10/10/10/10/10 % 10)] from if_neg (by omega)]
 rw[show jg 4 (n/10/10/10/10/10/10)=jg 3 (n/10/10/10/10/10/10/10)++[yf (48+n/10/10/10/10/10/10 % 10)] from if_neg (by omega)]
 rw[show jg 3 (n/10/10/10/10/10/10/10)=jg 2 (n/10/10/10/10/10/10/10/10)++[yf (48+n/10/10/10/10/10/10/10 % 10)] from if_neg (by omega)]
 rw[show jg 2 (n/10/10/10/10/10/10/10/10)=jg 1 (n/10/10/10/10/10/10/10/10/10)++[yf (48+n/10/10/10/10/10/10/10/10 % 10)] from if_neg (by omega)]
 rw[show jg 1 (n/10/10/10/10/10/10/10/10/10)=[yf (48+n/10/10/10/10/10/10/10/10/10)] from if_pos (by omega)]
 simp only[yB,yv,yz,and_true]
 refine⟨?_,?_,?_,?_,?_,?_,?_,?_,?_,?_⟩<;>exact zbh (by omega)
theorem ztc(N:Nat){n:Nat}(h:n<100):kR N ((n:Nat):Int)=some (dec n,()):=by
 have key:((yZ 100).all fun n=>decide (kR 0 ((n:Nat):Int)=some (dec n,())))=true:=by kernel_rfl
 rw[yR] at key
 exact of_decide_eq_true (key n (yV.2 h))
theorem zwP(N n:Nat)(hN:10<=N)(h:n<4294967296):zl N ((n:Nat):Int)=some (dec n,()):=by
 by_cases h0:n<100
 ·have c0:decide (((n:Nat):Int)<100)=true:=by simp;omega
  unfold zl
  simp only[zkc (show n<18446744073709551616 by omega),c0,cond_true]
  rw[wri (by omega) (by omega),ztc N h0];rfl
 ·rcases(show(100<=n/\n<1000)\/(1000<=n/\n<10000)\/(10000<=n/\n<100000)\/(100000<=n/\n<1000000)\/(1000000<=n/\n<10000000)\/(10000000<=n/\n<100000000)\/(100000000<=n/\n<1000000000)\/(1000000000<=n/\n<10000000000) by omega) with⟨h1,h2⟩|⟨h1,h2⟩|⟨h1,h2⟩|⟨h1,h2⟩|⟨h1,h2⟩|⟨h1,h2⟩|⟨h1,h2⟩|⟨h1,h2⟩
  ·rw[zCd n h1 h2];exact zCl N n hN h1 h2 h (zvP N n 3 (by omega) h (by omega) (by omega) h1 h2)
  ·rw[zCe n h1 h2];exact zCm N n hN h1 h2 h (zvP N n 4 (by omega) h (by omega) (by omega) h1 h2)
  ·rw[zCf n h1 h2];exact zCn N n hN h1 h2 h (zvP N n 5 (by omega) h (by omega) (by omega) h1 h2)
  ·rw[zCg n h1 h2];exact zCo N n hN h1 h2 h (zvP N n 6 (by omega) h (by omega) (by omega) h1 h2)
  ·rw[zCh n h1 h2];exact zCp N n hN h1 h2 h (zvP N n 7 (by omega) h (by omega) (by omega) h1 h2)
  ·rw[zCi n h1 h2];exact zCq N n hN h1 h2 h (zvP N n 8 (by omega) h (by omega) (by omega) h1 h2)
  ·rw[zCj n h1 h2];exact zCr N n hN h1 h2 h (zvP N n 9 (by omega) h (by omega) (by omega) h1 h2)
  ·rw[zA2 n h1 h2];exact zA4 N n hN h1 h2 h (zvP N n 10 (by omega) h (by omega) (by omega) h1 h2)
theorem zkq(N n:Nat)(hN:10<=N)(h:n<4294967296):zl N ((n:Nat):Int)=some (dec n,()):=by
 exact zwP N n hN h
theorem zoR:∀ f n,(jg f n).length<=f
 |0,n=>by simp [jg]
 |f+1,n=>by
  unfold jg
  split
  ·simp
  ·have:=zoR f (n/10);simp;omega
theorem zmQ{k:Nat}(h:k<10):slice ([48,49,50,51,52,53,54,55,56,57]:LB) k (k+1)=[yf (48+k)]:=by
 have key:((yZ 10).all fun k=>slice ([48,49,50,51,52,53,54,55,56,57]:LB) k (k+1)==[yf (48+k)])=true:=by kernel_rfl
 rw[yR] at key
 exact beq_iff_eq.1 (key k (yV.2 h))
theorem zz1(n:Nat):yh ((n:Nat):Int) 10=((n % 10:Nat):Int):=rfl
theorem zz0(n:Nat):yp ((n:Nat):Int) 10=((n/10:Nat):Int):=rfl
theorem zzi(N:Nat):∀ (f m n:Nat) (acc:LB),n<10 ^ f->n<4294967296->0<f->f<=m->acc.length+f<=1000->∃ (x:Nat) (ys:LB),jj N m ((n:Nat):Int) acc=some (((x:Nat):Int),ys)/\x<10/\yf (48+x)::ys=jg f n++acc/\ys.length<=1000
 |0,m,n,acc,h,h',h0,hm,hl=>by omega
 |f+1,0,n,acc,h,h',h0,hm,hl=>by omega
 |f+1,m+1,n,acc,h,h',h0,hm,hl=>by
  unfold jj zba
  by_cases hn:n<10
  ·have c:decide ((10:Int)<=((n:Nat):Int))=false:=by simp;omega
   simp only[c,cond_false]
   exact⟨n,acc,rfl,hn,by unfold jg;rw[if_pos hn];rfl,by omega⟩
  ·have c:decide ((10:Int)<=((n:Nat):Int))=true:=by simp;omega
   have hk:n % 10<10:=by omega
   have hb:=wR (a:=n % 10) (b:=n % 10+1) (n:=10) (by omega) (by omega)
   simp (disch:=omega) only[c,cond_true,zz1,zz0,zh1,zpG,hb,yg,zmQ]
   have c2:decide (yb [yf (48+n % 10)]+yb acc<4611686018427387904)=true:=by simp;omega
   simp only[c2,cond_true]
   have hpos:0<f:=by
    cases f with
    |zero=>simp at h;omega
    |succ f=>omega
   have hlt:n/10<10 ^ f:=by rw[vt] at h;omega
   obtain⟨x,ys,q1,q2,q3,q4⟩:=zzi N f m (n/10) ([yf (48+n % 10)]++acc) hlt (by omega) hpos (by omega) (by simp;omega)
   exact⟨x,ys,q1,q2,by
                rw[q3];conv=>rhs;unfold jg;rw[if_neg hn]
                simp,q4⟩
theorem zns(N n:Nat)(hN:10<=N)(h:n<4294967296):wE N ((n:Nat):Int)=some (dec n,()):=by
 obtain⟨x,ys,q1,q2,q3,q4⟩:=zzi N 10 N n [] (by omega) h (by omega) (by omega) (by simp)
 unfold wE
 have hb:=wR (a:=x) (b:=x+1) (n:=10) (by omega) (by omega)
 simp (disch:=omega) only[q1,ye,zh1,zpG,hb,cond_true,yg,zmQ]
 have c2:decide (yb [yf (48+x)]+yb ys<4611686018427387904)=true:=by simp;omega
 rw[yY] at q3
 simp only[c2,cond_true,yB,yv,q3];rfl
def zhG:Nat->LB->Option Nat
 |acc,[]=>some acc
 |acc,c::r=>if 48<=c.toNat/\c.toNat<=57 then zhG (acc*10+(c.toNat-48)) r else none
theorem ztz:∀ (l:LB) (acc v:Nat),zhG acc l=some v->acc<=v
 | [],acc,v,h=>by cases h;omega
 |c::r,acc,v,h=>by
  unfold zhG at h
  split at h
  ·have:=ztz r _ v h;omega
  ·cases h
theorem ztA:∀ (l:LB) (acc v k:Nat),zhG acc l=some v->acc<10 ^ k->v<10 ^ (k+l.length)
 | [],acc,v,k,h,hk=>by cases h;simpa using hk
 |c::r,acc,v,k,h,hk=>by
  unfold zhG at h
  split at h
  ·have:=ztA r _ v (k+1) h (by rw[vt];omega)
   rwa [yX,show k+(r.length+1)=k+1+r.length by omega]
  ·cases h
theorem zxj(M:Nat)(hM:M<1844674407370955162):∀ (l:LB) (acc v:Nat),acc<=M->zhG acc l=some v->v<=M->Go.Lib.parseUintM M acc l=.ok v
 | [],acc,v,ha,h,hv=>by cases h;rfl
 |c::r,acc,v,ha,h,hv=>by
  unfold zhG at h
  split at h
  ·rename_i hc
   have:=ztz r _ v h
   unfold Go.Lib.parseUintM
   rw[if_pos hc,if_neg (by omega),if_neg (by omega)]
   exact zxj M hM r _ v (by omega) h hv
  ·cases h
theorem zvU(M:Nat):∀ (l:LB) (acc v:Nat),acc<=M->Go.Lib.parseUintM M acc l=.ok v->zhG acc l=some v/\v<=M
 | [],acc,v,ha,h=>by cases h;exact⟨rfl,ha⟩
 |c::r,acc,v,ha,h=>by
  unfold Go.Lib.parseUintM at h
  split at h
  ·rename_i hc
   split at h
   ·cases h
   ·split at h
    ·cases h
    ·unfold zhG
     rw[if_pos hc]
     exact zvU M r _ v (by omega) h
  ·cases h
def zeD(s:LB):Option Nat:=match zhG 0 s with
 |some v=>if v<=4294967295/\dec v=s then some v else none
 |none=>none
def zuv(s:LB):Option (Int×Bool×Unit):=some (match zeD s with
 |some v=>(((v:Nat):Int),true,())
 |none=>(0,false,()))
theorem zn4{s:LB}{v:Nat}(h:zeD s=some v):v<=4294967295:=by
 unfold zeD at h
 split at h
 ·split at h
  ·rename_i hc;cases h;exact hc.1
  ·cases h
 ·cases h
theorem zib(n:Nat):(dec n).length<=10:=zoR 10 n
theorem zuw{s:LB}{v:Nat}(h:zeD s=some v):s.length<=10:=by
 unfold zeD at h
 split at h
 ·split at h
  ·rename_i hc;rw[<- hc.2];exact zib _
  ·cases h
 ·cases h
theorem zk1(N:Nat)(hN:10<=N)(s:LB)(hs:s.length<=100000):wT N s=zuv s:=by
 unfold wT zuv
 have hb:yF (yb s) zp3=true:=by rw[Nat.ble_eq];unfold zp3;omega
 simp only[hb,cond_true]
 have bad:zeD s=none->some ((0:Int),false,())=some (match zeD s with
  |some v=>(((v:Nat):Int),true,())
  |none=>(0,false,())):=fun h=>by rw[h]
 rcases hp:Go.Lib.parseUintB 32 s with u|_|_
 ·unfold Go.Lib.parseUintB at hp
  split at hp
  ·cases hp
  ·obtain⟨h1,h2⟩:=zvU _ s 0 u (by omega) hp
   have h2:u<=4294967295:=h2
   simp only[zsm]
   rw[zpG (by omega),zkq N u hN (by omega)]
   simp only[ye]
   unfold zeD
   simp only[h1]
   cases hd:dec u != s with
   |true=>
    have hd':¬ dec u=s:=by simpa using hd
    rw[if_neg (fun h=>hd' h.2)];rfl
   |false=>
    have hd':dec u=s:=by simpa using hd
    rw[if_pos ⟨h2,hd'⟩];rfl
 ·refine bad ?_
  unfold zeD
  split
  ·rename_i v hv
   rw[if_neg]
   intro⟨h1,h2⟩
   unfold Go.Lib.parseUintB at hp
   split at hp
   ·rename_i he
    subst he
    have:(dec v).length=0:=by rw[h2];rfl
    unfold dec jg at this
    split at this<;>simp at this
   ·rw[zxj _ (by decide) s 0 v (by omega) hv h1] at hp;cases hp
  ·rfl
 ·refine bad ?_
  unfold zeD
  split
  ·rename_i v hv
   rw[if_neg]
   intro⟨h1,h2⟩
   unfold Go.Lib.parseUintB at hp
   split at hp
   ·cases hp
   ·rw[zxj _ (by decide) s 0 v (by omega) hv h1] at hp;cases hp
  ·rfl
theorem zCD(c:UInt8):decide (c<(48:UInt8))=decide (c.toNat<48):=by
 rw[decide_eq_decide];exact vn
theorem zCA(c:UInt8):decide ((57:UInt8)<c)=decide (57<c.toNat):=by
 rw[decide_eq_decide];exact vn
theorem zBl{c:UInt8}(h:48<=c.toNat):(c-48).toNat=c.toNat-48:=by
 have:=c.toNat_lt
 rw[UInt8.toNat_sub]
 show(256-48+c.toNat) % 256=_
 omega
theorem zzk(N:Nat)(s:LB)(hs:s.length<=10):∀ (m i v:Nat),i<=s.length->v<10 ^ i->s.length<m+i ->
  jJ N m s ((v:Nat):Int) ((i:Nat):Int)=match zhG v (s.drop i) with
   |some w=>some (Sum.inr (s,((w:Nat):Int)))
   |none=>some (Sum.inl ())
 |0,i,v,h,hv,h'=>by omega
 |m+1,i,v,h,hv,h'=>by
  unfold jJ zbO
  by_cases hi:i<s.length
  ·simp only[zhP hi,cond_true,jh hi,yg,wO (u:=.u8) hi,zCD,zCA,drop_one hi,zhG]
   have hlt:=s[i].toNat_lt
   by_cases h1:s[i].toNat<48
   ·simp only[decide_eq_true h1,cond_true]
    rw[if_neg (by omega)]
   ·simp only[decide_eq_false h1,cond_false]
    by_cases h2:57<s[i].toNat
    ·simp only[decide_eq_true h2,cond_true]
     rw[if_neg (by omega)]
    ·simp only[decide_eq_false h2,cond_false]
     rw[if_pos ⟨by omega,by omega⟩,zBl (by omega)]
     have hp:10 ^ i<=10 ^ 9:=vw (by omega) (by omega)
     have hp2:(10:Nat) ^ (i+1)=10 ^ i*10:=vt ..
     have e1:ya .u64 ((ya .u64 ((10:Int)*((v:Nat):Int)))+(ya .u64 (((s[i].toNat-48:Nat)):Int)))=((v*10+(s[i].toNat-48):Nat):Int):=by
      rw[show(10:Int)*((v:Nat):Int)=((10*v:Nat):Int) from rfl,zkc (by omega),zkc (n:=s[i].toNat-48) (by omega),show((10*v:Nat):Int)+((s[i].toNat-48:Nat):Int)=((10*v+(s[i].toNat-48):Nat):Int) from rfl,zkc (by omega)]
      omega
     rw[e1,wri (by omega) (by omega),zh1]
     exact zzk N s hs m (i+1) _ (by omega) (by omega) (by omega)
  ·simp only[zhO hi,cond_false]
   rw[yN (by omega)]
   rfl
theorem zxe(N:Nat)(hN:20<=N)(s:LB):zaG N s=zuv s:=by
 unfold zaG zuv
 by_cases hl:s.length<=10
 ·have c:decide ((10:Int)<((s.length:Nat):Int))=false:=by simp;omega
  have h:=zzk N s hl N 0 0 (by omega) (by simp) (by omega)
  rw[show((0:Nat):Int)=(0:Int) from rfl,yI] at h
  simp only[c,cond_false,h]
  unfold zeD
  cases hv:zhG 0 s with
  |none=>rfl
  |some v=>
   simp only[ye,ze]
   have hlt:=ztA s 0 v 0 hv (by simp)
   have hp:10 ^ (0+s.length)<=10 ^ 10:=vw (by omega) (by omega)
   by_cases h1:v<=4294967295
   ·have c1:decide ((4294967295:Int)<((v:Nat):Int))=false:=by simp;omega
    simp only[c1,cond_false]
    rw[zpG (by omega),zns N v (by omega) (by omega)]
    simp only[ye]
    cases hd:dec v != s with
    |true=>
     have hd':¬ dec v=s:=by simpa using hd
     rw[if_neg (fun h=>hd' h.2)];rfl
    |false=>
     have hd':dec v=s:=by simpa using hd
     rw[if_pos ⟨h1,hd'⟩];rfl
   ·have c1:decide ((4294967295:Int)<((v:Nat):Int))=true:=by simp;omega
    simp only[c1,cond_true]
    rw[if_neg (fun h=>h1 h.1)]
 ·have c:decide ((10:Int)<((s.length:Nat):Int))=true:=by simp;omega
  simp only[c,cond_true]
  cases hv:zeD s with
  |none=>rfl
  |some v=>exact absurd (zuw hv) hl
def posOf(c:UInt8):LB->Option Nat
 | []=>none
 |x::l=>if x==c then some 0 else match posOf c l with
  |some i=>some (i+1)
  |none=>none
theorem zih(c:UInt8):∀ (l:LB) (k:Nat),ke c l k=match posOf c l with
  |some i=>((k+i:Nat):Int)
  |none=>-1
 | [],k=>rfl
 |x::l,k=>by
  unfold posOf
  simp only[ke]
  cases x==c with
  |true=>simp
  |false=>
   simp only[yL,if_false]
   rw[zih c l (k+1)]
   cases posOf c l with
   |none=>rfl
   |some i=>simp only;congr 1;omega
theorem zcW{c:UInt8}:∀ {l:LB} {i:Nat},posOf c l=some i->i<l.length/\l[i]?=some c/\∀ j:Nat,j<i->l[j]? ≠ some c
 | [],i,h=>by cases h
 |x::l,i,h=>by
  unfold posOf at h
  cases hx:x==c with
  |true=>
   simp only[hx,if_true] at h
   cases h
   rw[beq_iff_eq] at hx
   subst hx
   exact⟨by simp,rfl,fun j hj=>by omega⟩
  |false=>
   have hx':¬ x=c:=by simpa using hx
   simp only[hx,yL,if_false] at h
   split at h
   ·rename_i i' hi
    cases h
    obtain⟨h1,h2,h3⟩:=zcW hi
    refine⟨by simpa using h1,by simpa using h2,fun j hj=>?_⟩
    cases j with
    |zero=>simpa using hx'
    |succ j=>simpa using h3 j (by omega)
   ·cases h
theorem zcl{α:Type}(l:List α)(a:Nat):zf l a=l.drop a:=by
 unfold zf;rw[yg];exact zc2
theorem zdS{α:Type}{a:Nat}{l:List α}(h:a<=l.length):jf ((a:Nat):Int) l=true:=wR h (yw _)
theorem zkl(N:Nat)(l:LB)(h:l.length<=100000):zQ N l=some (l,()):=by
 unfold zQ
 rw[zaj (by omega)];rfl
def zAg(b:LB)(i:Nat):Option (LB×Int×Bool×Unit):=match posOf 125 (b.drop (i+1)) with
 |none=>some ([],0,false,())
 |some k=>match zeD (slice b (i+1) (i+1+k)) with
  |none=>some ([],0,false,())
  |some n=>if n<=65536/\b[i+1+k+1]?=some 13/\b[i+1+k+2]?=some 10/\i+1+k+3+n<=b.length then some (slice b (i+1+k+3) (i+1+k+3+n),((i+1+k+3+n:Nat):Int),true,()) else some ([],0,false,())
theorem j9{α:Type}{l:List α}{a b:Nat}:(slice l a b).length<=l.length:=by
 unfold slice;rw[yS,yn];omega
theorem zrJ(N:Nat)(b:LB)(hb:b.length<=100000)(hN:10<=N)(i:Nat)(hi:i<b.length)(hc:b[i]=123):qS N b (i:Int)=zAg b i:=by
 unfold qS zAg jG
 have d0:decide ((i:Int)<0)=false:=by simp
 have d1:decide (((b.length:Nat):Int)<=(i:Int))=false:=by simp;omega
 have w1:ya .i64 ((i:Int)+1)=((i+1:Nat):Int):=by rw[wri (by omega) (by omega)];omega
 have w2:ya .i64 (((i+1:Nat):Int)-1)=(i:Int):=by rw[wri (by omega) (by omega)];omega
 have hbe:jf ((i+1:Nat):Int) b=true:=zdS (by omega)
 simp only[d0,d1,cond_false,w1,w2,jh hi,cond_true,yg,wO (u:=.u8) hi,hc,show((123:UInt8)==123)=true from rfl,yu,hbe,yA,zcl,zih,ye]
 cases hp:posOf 125 (b.drop (i+1)) with
 |none=>simp only[show decide ((-1:Int)<0)=true from rfl,cond_true]
 |some k=>
  obtain⟨q1,q2,q3⟩:=zcW hp
  rw[yn] at q1
  have w3:ya .i64 (((k:Nat):Int)+1)=((k+1:Nat):Int):=by rw[wri (by omega) (by omega)];omega
  have w4:ya .i64 (((i+1:Nat):Int)+((k:Nat):Int))=((i+1+k:Nat):Int):=by rw[wri (by omega) (by omega)];omega
  have w5:ya .i64 (((i+1:Nat):Int)+((k+1:Nat):Int))=((i+1+k+1:Nat):Int):=by rw[wri (by omega) (by omega)];omega
  have d2:decide (((k:Nat):Int)<0)=false:=by simp
  have hb2:wo ((i+1:Nat):Int) ((i+1+k:Nat):Int) b.length=true:=wR (by omega) (by omega)
  simp only[vp,d2,cond_false,w3,w4,w5,hb2,cond_true,yg]
  rw[zk1 N hN _ (vq j9 (by omega))]
  unfold zuv
  have hj:i+1+k<b.length:=by omega
  generalize i+1+k=j at hj |-
  simp only[ye]
  cases hn:zeD (slice b (i+1) j) with
  |none=>rfl
  |some n=>
   have hn2:=zn4 hn
   simp only[yu,cond_false]
   by_cases c1:n<=65536
   ·have e1:decide ((65536:Int)<((n:Nat):Int))=false:=by simp;omega
    have d3:decide (((j+1:Nat):Int)<0)=false:=by simp;omega
    simp only[e1,cond_false,d3]
    by_cases c2:j+1<b.length
    ·have e2:decide (((b.length:Nat):Int)<=((j+1:Nat):Int))=false:=by simp;omega
     have w6:ya .i64 (((j+1:Nat):Int)+1)=((j+2:Nat):Int):=by rw[wri (by omega) (by omega)];omega
     have w7:ya .i64 (((j+2:Nat):Int)-1)=((j+1:Nat):Int):=by rw[wri (by omega) (by omega)];omega
     have d4:decide (((j+2:Nat):Int)<0)=false:=by simp;omega
     simp only[e2,cond_false,w6,w7,jh c2,cond_true,yg,wO (u:=.u8) c2,yi c2,yo,d4]
     cases h13:b[j+1]==(13:UInt8) with
     |false=>
      have h13':¬ b[j+1]=13:=by simpa using h13
      simp only[yC,cond_true]
      rw[if_neg (fun h=>h13' h.2.1)]
     |true=>
      have h13':b[j+1]=13:=by simpa using h13
      simp only[yu,cond_false,h13',true_and]
      by_cases c3:j+2<b.length
      ·have e3:decide (((b.length:Nat):Int)<=((j+2:Nat):Int))=false:=by simp;omega
       have w8:ya .i64 (((j+2:Nat):Int)+1)=((j+3:Nat):Int):=by rw[wri (by omega) (by omega)];omega
       have w9:ya .i64 (((j+3:Nat):Int)-1)=((j+2:Nat):Int):=by rw[wri (by omega) (by omega)];omega
       have w10:ya .i64 ((n:Nat):Int)=((n:Nat):Int):=wri (by omega) (by omega)
       have w11:ya .i64 (((j+3:Nat):Int)+((n:Nat):Int))=((j+3+n:Nat):Int):=by rw[wri (by omega) (by omega)];omega
       have w12:ya .i64 (((b.length:Nat):Int)-((j+3:Nat):Int))=((b.length:Nat):Int)-((j+3:Nat):Int):=wri (by omega) (by omega)
       simp only[e3,cond_false,w8,w9,jh c3,cond_true,yg,wO (u:=.u8) c3,yi c3,yo,w10,w11,w12]
       cases h10:b[j+2]==(10:UInt8) with
       |false=>
        have h10':¬ b[j+2]=10:=by simpa using h10
        simp only[yC,cond_true]
        rw[if_neg (fun h=>h10' h.2.1)]
       |true=>
        have h10':b[j+2]=10:=by simpa using h10
        simp only[yu,cond_false,h10',true_and]
        by_cases c4:j+3+n<=b.length
        ·have e4:decide (((b.length:Nat):Int)-((j+3:Nat):Int)<((n:Nat):Int))=false:=by simp only[decide_eq_false_iff_not];omega
         have hb3:wo ((j+3:Nat):Int) ((j+3+n:Nat):Int) b.length=true:=wR (by omega) (by omega)
         simp only[e4,cond_false,hb3,cond_true]
         rw[zkl N _ (vq j9 (by omega)),if_pos ⟨c1,c4⟩];rfl
        ·have e4:decide (((b.length:Nat):Int)-((j+3:Nat):Int)<((n:Nat):Int))=true:=by simp only[decide_eq_true_eq];omega
         simp only[e4,cond_true]
         rw[if_neg (fun h=>c4 h.2)]
      ·have e3:decide (((b.length:Nat):Int)<=((j+2:Nat):Int))=true:=by simp;omega
       have n3:b[j+2]?=none:=yW (by omega)
       simp only[e3,cond_true,n3]
       rw[if_neg (fun h=>by cases h.2.1)]
    ·have e2:decide (((b.length:Nat):Int)<=((j+1:Nat):Int))=true:=by simp;omega
     have n2:b[j+1]?=none:=yW (by omega)
     simp only[e2,cond_true,n2]
     rw[if_neg (fun h=>by cases h.2.1)]
   ·have e1:decide ((65536:Int)<((n:Nat):Int))=true:=by simp;omega
    simp only[e1,cond_true]
    rw[if_neg (fun h=>c1 h.1)]
theorem zt8(N:Nat)(b:LB)(hb:b.length<=20000)(hN:10<=N)(i:Nat)(hi:i<b.length)(hc:b[i]=123):qS N b (i:Int)=zAg b i:=zrJ N b (by omega) hN i hi hc
def zdU:LB->Option Nat
 | []=>none
 |a::r=>if a=13/\r.head?=some 10 then some 0 else(zdU r).map (· + 1)
theorem znv:∀ {l:LB} {e:Nat},zdU l=some e->e+1<l.length
 | [],e,h=>by cases h
 |a::r,e,h=>by
  unfold zdU at h
  split at h
  ·rename_i hc
   cases h
   cases r with
   |nil=>simp at hc
   |cons c r=>simp
  ·cases hr:zdU r with
   |none=>rw[hr] at h;cases h
   |some k=>
    rw[hr] at h
    have:=znv hr
    cases h
    simp;omega
theorem zlV:∀ (l:LB),Go.Lib.index l [13,10]=match zdU l with|some e=>(e:Int)|none=>-1
 | []=>rfl
 |a::r=>by
  unfold Go.Lib.index zdU
  have ih:=zlV r
  have hp:([13,10]:LB).isPrefixOf (a::r)=decide (a=13/\r.head?=some 10):=by
   cases r with
   |nil=>simp [vA]
   |cons c r=>
    simp only[vA,yA,List.head?_cons,yo]
    by_cases h1:a=13
    ·by_cases h2:c=10
     ·subst h1;subst h2;rfl
     ·subst h1;simp [h2,beq_eq_false_iff_ne,Ne.symm h2]
    ·simp [h1,Ne.symm h1]
  rw[hp]
  by_cases hc:a=13/\r.head?=some 10
  ·simp [hc]
  ·rw[decide_eq_false hc,if_neg hc,if_neg (by simp),ih]
   cases zdU r with
   |none=>rfl
   |some k=>
    simp only[vi]
    have:((k:Int) == -1)=false:=by simp
    rw[this];simp
theorem zvC(N:Nat){b:LB}(hb:b.length<=1000000):∀ (m i:Nat),i<=b.length->b.length<m+i->ku N m b (i:Int)=some (match zdU (b.drop i) with|some e=>.inl ((i+e:Nat):Int)|none=>.inr ())
 |0,i,h,h'=>by omega
 |m+1,i,h,h'=>by
  unfold ku zdv
  rw[wri (by omega) (by omega),show((i:Int)+1)=((i+1:Nat):Int) by omega]
  by_cases h1:i+1<b.length
  ·have h0:i<b.length:=by omega
   rw[zhP h1,cond_true,jh h0,cond_true]
   simp only[yg,wO (u:=.u8) h0,wO (u:=.u8) h1,jh h1,cond_true]
   rw[drop_one h0]
   have ih:=zvC N hb m (i+1) (by omega) (by omega)
   have hh:(b.drop (i+1)).head?=some b[i+1]:=by rw[List.head?_drop,yi h1]
   unfold zdU
   rw[hh]
   by_cases c1:b[i]=13
   ·by_cases c2:b[i+1]=10
    ·simp [c1,c2]
    ·rw[if_neg (by simp [c2]),ih]
     simp only[c1,beq_self_eq_true,cond_true,beq_eq_false_iff_ne.2 c2,cond_false]
     cases zdU (b.drop (i+1)) with
     |none=>rfl
     |some e=>simp only[vi];congr 3;omega
   ·rw[if_neg (by simp [c1]),ih]
    simp only[beq_eq_false_iff_ne.2 c1,cond_false]
    cases zdU (b.drop (i+1)) with
    |none=>rfl
    |some e=>simp only[vi];congr 3;omega
  ·rw[zhO h1,cond_false]
   have:zdU (b.drop i)=none:=by
    cases he:zdU (b.drop i) with
    |none=>rfl
    |some e=>have:=znv he;rw[yn] at this;omega
   rw[this]
theorem zwK(N:Nat){b:LB}(hb:b.length<=1000000)(hN:b.length<N){i:Nat}(hi:i<=b.length):zc9 N b (i:Int)=some (match zdU (b.drop i) with|some e=>((i+e:Nat):Int)|none=>-1,()):=by
 unfold zc9
 rw[zvC N hb N i hi (by omega),ye]
 cases zdU (b.drop i)<;>rfl
def dg(c:UInt8):Prop:=48<=c.toNat/\c.toNat<=57
instance (c:UInt8):Decidable (dg c):=inferInstanceAs (Decidable (_/\_))
theorem zty:∀ (l:LB) (acc v:Nat),zhG acc l=some v->∀ c ∈ l,dg c
 | [],_,_,_,c,h=>by cases h
 |a::r,acc,v,h,c,hc=>by
  unfold zhG at h
  split at h
  ·rename_i hd
   rcases vl.1 hc with rfl|hc
   ·exact hd
   ·exact zty r _ v h c hc
  ·cases h
theorem zsb{s:LB}{v:Nat}(h:zeD s=some v):∀ c ∈ s,dg c:=by
 unfold zeD at h
 split at h
 ·rename_i w hw
  exact zty s 0 w hw
 ·cases h
def zbx(c:UInt8)(l:LB):Nat->Option Nat
 |0=>none
 |k+1=>if l[k]?=some c then some k else zbx c l k
theorem zbC{c:UInt8}{l:LB}:∀ {k j:Nat},zbx c l k=some j->j<k/\l[j]?=some c/\∀ i,j<i->i<k->l[i]? ≠ some c
 |0,j,h=>by cases h
 |k+1,j,h=>by
  unfold zbx at h
  split at h
  ·rename_i hc
   cases h
   exact⟨by omega,hc,fun i h1 h2=>by omega⟩
  ·rename_i hc
   obtain⟨h1,h2,h3⟩:=zbC h
   refine⟨by omega,h2,fun i h4 h5=>?_⟩
   by_cases e:i=k
   ·subst e;exact hc
   ·exact h3 i h4 (by omega)
theorem zjF{c:UInt8}{l:LB}:∀ {k:Nat},zbx c l k=none->∀ i,i<k->l[i]? ≠ some c
 |0,h,i,hi=>by omega
 |k+1,h,i,hi=>by
  unfold zbx at h
  split at h
  ·cases h
  ·rename_i hc
   by_cases e:i=k
   ·subst e;exact hc
   ·exact zjF h i (by omega)
def zn9(l:LB):Nat->Nat
 |0=>0
 |k+1=>if ∃ c,l[k]?=some c/\dg c then zn9 l k else k+1
theorem ziF(l:LB):∀ k,zn9 l k<=k/\(∀ j,zn9 l k<=j->j<k->∃ c,l[j]?=some c/\dg c)/\(∀ r,zn9 l k=r+1->¬ ∃ c,l[r]?=some c/\dg c)
 |0=>⟨yw _,fun j h h'=>by omega,fun r h=>by cases h⟩
 |k+1=>by
  obtain⟨h1,h2,h3⟩:=ziF l k
  unfold zn9
  split
  ·rename_i hc
   refine⟨by omega,fun j q1 q2=>?_,h3⟩
   by_cases e:j=k
   ·subst e;exact hc
   ·exact h2 j q1 (by omega)
  ·rename_i hc
   refine⟨yw _,fun j q1 q2=>by omega,fun r e=>?_⟩
   cases e;exact hc
theorem zxm{l:LB}{k j:Nat}(hj:j<=k)(h1:∀ i,j<=i->i<k->∃ c,l[i]?=some c/\dg c)(h2:∀ r,j=r+1->¬ ∃ c,l[r]?=some c/\dg c):zn9 l k=j:=by
 obtain⟨q1,q2,q3⟩:=ziF l k
 rcases vz (zn9 l k) j with h|h|h
 ·obtain⟨r,rfl⟩:∃ r,j=r+1:=⟨j-1,by omega⟩
  exact absurd (q2 r (by omega) (by omega)) (h2 r rfl)
 ·exact h
 ·obtain⟨r,hr⟩:∃ r,zn9 l k=r+1:=⟨zn9 l k-1,by omega⟩
  exact absurd (h1 r (by omega) (by omega)) (q3 r hr)
def znd(l:LB):Option Nat:=if l.getLast?=some 125 then match zbx 123 l (l.length-1) with
 |some j=>zeD (slice l (j+1) (l.length-1))
 |none=>none
 else none
def zvt(o:Option Nat):Option (Int×Bool×Unit):=some (match o with
 |some v=>(((v:Nat):Int),true,())
 |none=>(0,false,()))
theorem zsa(s:LB):zuv s=zvt (zeD s):=rfl
theorem wrap32{v:Nat}(h:v<=4294967295):ya .i64 (v:Int)=v:=wri (by omega) (by omega)
theorem zrD(N:Nat){l:LB}(hl:l.length<=1000000)(c:UInt8):∀ (k m:Nat),k<=l.length->k<m->zz N m l c ((k:Int)-1)=some (match zbx c l k with|some j=>.inl (j:Int)|none=>.inr ())
 |0,m,_,h=>by
  obtain⟨m,rfl⟩:∃ q,m=q+1:=⟨m-1,by omega⟩
  unfold zz jA
  rw[show decide ((0:Int)<=((0:Nat):Int)-1)=false by decide]
  rfl
 |k+1,m,hk,h=>by
  obtain⟨m,rfl⟩:∃ q,m=q+1:=⟨m-1,by omega⟩
  have ih:=zrD N hl c k m (by omega) (by omega)
  unfold zz jA
  rw[show(((k+1:Nat):Int)-1)=((k:Nat):Int) by omega,decide_eq_true (by omega:(0:Int)<=(k:Int)),cond_true,jh (by omega),cond_true,yg,wO (u:=.u8) (by omega:k<l.length),wri (by omega) (by omega),ih]
  rw[show zbx c l (k+1)=if l[k]?=some c then some k else zbx c l k from rfl,yi (by omega:k<l.length)]
  by_cases e:l[k]=c
  ·simp [e]
  ·rw[beq_eq_false_iff_ne.2 e,cond_false,if_neg (by simp [e])]
theorem zrE(N:Nat){l:LB}(hl:l.length<=1000000)(hN:l.length<N)(c:UInt8):qW N l c=some (match zbx c l l.length with|some j=>(j:Int)|none=>-1,()):=by
 unfold qW jy
 rw[wri (by omega) (by omega),zrD N hl c l.length N (yw _) hN,ye]
 cases zbx c l l.length<;>rfl
theorem zjG{c:UInt8}{l:LB}{n:Nat}:∀ {k:Nat},k<=n->zbx c (l.take n) k=zbx c l k
 |0,_=>rfl
 |k+1,h=>by
  rw[show zbx c (l.take n) (k+1)=if(l.take n)[k]?=some c then some k else zbx c (l.take n) k from rfl,show zbx c l (k+1)=if l[k]?=some c then some k else zbx c l k from rfl,List.getElem?_take_of_lt (show k<n by omega),zjG (by omega)]
theorem zoy(N:Nat){l:LB}(hl:l.length<=1000000):wq N l [125]=some (if l.getLast?=some 125 then(l.take (l.length-1),true,()) else(l,false,())):=by
 unfold wq kX zbl
 cases hc:l.length with
 |zero=>
  have:l=[]:=vm.1 hc
  subst this
  rfl
 |succ n=>
  have hw:ya .i64 (((n+1:Nat):Int)-(1:Int))=(n:Int):=by rw[show(((n+1:Nat):Int)-1)=(n:Int) by omega];exact wri (by omega) (by omega)
  have hd:zf l n=[l[n]'(by omega)]:=by
   rw[zcl,drop_one (by omega),List.drop_of_length_le (by omega)]
  have hgl:l.getLast?=some (l[n]'(by omega)):=by rw[vk,show l.length-1=n by omega,yi]
  simp only[yX,List.length_nil,vp,hc]
  rw[show decide (((1:Nat):Int)<=((n+1:Nat):Int))=true by simp;omega,cond_true]
  simp only[show(((1:Nat):Int))=(1:Int) from rfl,hw,zdS (show n<=l.length by omega),yA,cond_true,yg,hd,ye,hgl,yo]
  by_cases e:l[n]'(by omega)=125
  ·simp only[e,beq_self_eq_true,yu,cond_false,if_true]
   rw[show wo (0:Int) (n:Int) (n+1)=true from wR (a:=0) (yQ _) (by omega),wL]
   rfl
  ·have:([l[n]'(by omega)]==[(125:UInt8)])=false:=by simp [e]
   simp only[this,yC,cond_true,e,if_false]
theorem ztR(N:Nat){l:LB}(hl:l.length<=100000)(hN:l.length<N)(hN2:10<=N):wC N l=zvt (znd l):=by
 unfold wC
 rw[zoy N (by omega),ye]
 unfold znd
 by_cases h:l.getLast?=some 125
 ·rw[if_pos h,if_pos h]
  have hlt:(l.take (l.length-1)).length=l.length-1:=by rw[yS];omega
  simp only[yu,cond_false]
  rw[zrE N (by omega) (by omega),hlt,zjG (yw _),ye]
  cases hj:zbx 123 l (l.length-1) with
  |none=>rfl
  |some j=>
   obtain⟨h1,h2,h3⟩:=zbC hj
   simp only
   rw[decide_eq_false (by omega),cond_false,wri (by omega) (by omega),show((j:Int)+1)=((j+1:Nat):Int) by omega,zdS (by omega),yg]
   simp only[yA,cond_true]
   have hs:zf (l.take (l.length-1)) (j+1)=slice l (j+1) (l.length-1):=by rw[zcl,List.drop_take];rfl
   rw[hs,zk1 N hN2 _ (by have:=@j9 _ l (j+1) (l.length-1);omega),zsa]
   cases hn:zeD (slice l (j+1) (l.length-1)) with
   |none=>rfl
   |some v=>
    simp only[zvt,ye]
    rw[wrap32 (zn4 hn)]
 ·rw[if_neg h,if_neg h]
  rfl
theorem zsC(N:Nat){l:LB}(hl:l.length<=1000000)(x2:Int):∀ (k m:Nat),k<=l.length->k<m->qJ N m l x2 (k:Int)=some (l,x2,((zn9 l k:Nat):Int))
 |0,m,_,h=>by
  obtain⟨m,rfl⟩:∃ q,m=q+1:=⟨m-1,by omega⟩
  rfl
 |k+1,m,hk,h=>by
  obtain⟨m,rfl⟩:∃ q,m=q+1:=⟨m-1,by omega⟩
  have ih:=zsC N hl x2 k m (by omega) (by omega)
  have hk':k<l.length:=by omega
  unfold qJ zas
  rw[decide_eq_true (by omega:(0:Int)<((k+1:Nat):Int)),cond_true,wri (by omega) (by omega),show(((k+1:Nat):Int)-1)=(k:Int) by omega,jh hk']
  simp only[cond_true,yg,wO (u:=.u8) hk',ih]
  rw[show zn9 l (k+1)=if ∃ c,l[k]?=some c/\dg c then zn9 l k else k+1 from rfl,yi hk']
  by_cases e1:(48:UInt8)<=l[k]
  ·by_cases e2:l[k]<=(57:UInt8)
   ·rw[if_pos ⟨_,rfl,e1,e2⟩]
    simp [e1,e2]
   ·rw[if_neg (fun⟨c,h1,h2⟩=>by cases h1;exact e2 h2.2)]
    simp [e1,e2]
  ·rw[if_neg (fun⟨c,h1,h2⟩=>by cases h1;exact e1 h2.1)]
   simp [e1]
theorem zwx(N:Nat){l:LB}(hl:l.length<=100000)(hN:l.length<N)(hN2:20<=N):kZ N l=zvt (znd l):=by
 unfold kZ
 rw[wri (by omega) (by omega)]
 cases hc:l.length with
 |zero=>
  have:l=[]:=vm.1 hc
  subst this
  rfl
 |succ n=>
  have hn:n<l.length:=by omega
  have hgl:l.getLast?=some (l[n]'(by omega)):=by rw[vk,show l.length-1=n by omega,yi]
  rw[show(((n+1:Nat):Int)-1)=(n:Int) by omega,decide_eq_false (by omega),cond_false,jh (by omega),cond_true,yg,wO (u:=.u8) hn]
  unfold znd
  rw[hgl,hc,Nat.add_sub_cancel]
  by_cases e:l[n]'(by omega)=125
  ·obtain⟨r1,r2,r3⟩:=ziF l n
   rw[if_pos (by rw[e]),zsC N (by omega) _ n N (by omega) (by omega),ye]
   have hb:(l[n]'(by omega) != 125)=false:=by simp [e]
   rw[hb,cond_false]
   simp only
   rw[wR r1 (by omega),zxe N hN2]
   simp only[yA,cond_true,yg]
   have key:∀ j v,zbx 123 l n=some j->zeD (slice l (j+1) n)=some v->zn9 l n=j+1:=fun j v hj hv=>by
    obtain⟨h1,h2,h3⟩:=zbC hj
    have hd:=zsb hv
    refine zxm (by omega) (fun i q1 q2=>?_) fun r er=>?_
    ·have hi:i<l.length:=by omega
     refine⟨l[i],yi hi,hd _ ?_⟩
     rw[List.mem_iff_getElem?]
     refine⟨i-(j+1),?_⟩
     unfold slice
     rw[List.getElem?_take,if_pos (by omega),List.getElem?_drop,show j+1+(i-(j+1))=i by omega,yi hi]
    ·cases er
     rintro⟨c,h4,h5⟩
     rw[h2] at h4;cases h4
     exact absurd h5 (by decide)
   cases hv:zeD (slice l (zn9 l n) n) with
   |none=>
    simp only[zuv,hv,ye,yC,cond_true]
    cases hj:zbx 123 l n with
    |none=>rfl
    |some j=>
     simp only
     cases hw:zeD (slice l (j+1) n) with
     |none=>rfl
     |some v=>
      rw[key j v hj hw,hw] at hv;cases hv
   |some v=>
    simp only[zuv,hv,ye,yu,cond_false]
    cases hr:zn9 l n with
    |zero=>
     rw[show(((0:Nat):Int)==0)=true from rfl,cond_true]
     cases hj:zbx 123 l n with
     |none=>rfl
     |some j=>
      obtain⟨h1,h2,h3⟩:=zbC hj
      obtain⟨c,h4,h5⟩:=r2 j (by omega) h1
      rw[h2] at h4;cases h4
      exact absurd h5 (by decide)
    |succ r=>
     have hrl:r<l.length:=by omega
     rw[show((((r+1:Nat):Int))==0)=false by simp;omega,cond_false,wri (by omega) (by omega),show(((r+1:Nat):Int)-1)=(r:Int) by omega,jh (by omega),cond_true,yg,wO (u:=.u8) hrl]
     by_cases e3:l[r]=123
     ·have hj:zbx 123 l n=some r:=by
       cases hj:zbx 123 l n with
       |none=>exact absurd (by rw[yi hrl,e3]) (zjF hj r (by omega))
       |some j=>
        obtain⟨h1,h2,h3⟩:=zbC hj
        rcases vz j r with q|q|q
        ·exact absurd (by rw[yi hrl,e3]) (h3 r q (by omega))
        ·rw[q]
        ·obtain⟨c,h4,h5⟩:=r2 j (by omega) h1
         rw[h2] at h4;cases h4
         exact absurd h5 (by decide)
      rw[hj]
      simp only
      rw[hr] at hv
      have hb3:(l[r] != 123)=false:=by simp [e3]
      rw[hv,hb3,cond_false,wrap32 (zn4 hv)]
      rfl
     ·have hb3:(l[r] != 123)=true:=by simp [e3]
      rw[hb3,cond_true]
      cases hj:zbx 123 l n with
      |none=>rfl
      |some j=>
       simp only
       cases hw:zeD (slice l (j+1) n) with
       |none=>rfl
       |some v'=>
        have:=key j v' hj hw
        rw[hr] at this;cases this
        obtain⟨h1,h2,h3⟩:=zbC hj
        rw[yi hrl] at h2
        exact absurd (vH h2) e3
  ·have hb:(l[n]'(by omega) != 125)=true:=by simp [e]
   rw[hb,cond_true,if_neg (by simp [e])]
   rfl
abbrev Frm:=Int×LB
def znm(b:LB):Nat->Nat->List Frm×Option Nat
 |0,_=>([],none)
 |m+1,f=>if f<=b.length then match zdU (b.drop f) with
  |none=>([],none)
  |some e=>if 8192<(slice b f (f+e)).length then([(3,(slice b f (f+e)).take 8192)],some (f+e+2)) else match znd (slice b f (f+e)) with
   |none=>([(1,b.take (f+e))],some (f+e+2))
   |some n=>if 65536<n then([(4,b.take (f+e))],some (f+e+2)) else((2,[])::(znm b m (f+e+2+n)).1,(znm b m (f+e+2+n)).2)
  else([],none)
theorem zde(b:LB){f:Nat}(h:b.length<f):∀ m,znm b m f=([],none)
 |0=>rfl
 |m+1=>by unfold znm;rw[if_neg (by omega)]
theorem zic{b:LB}{f e:Nat}(h:zdU (b.drop f)=some e):f+e+2<=b.length:=by
 have:=znv h;rw[yn] at this;omega
theorem zlD(b:LB):∀ (m m' f:Nat),b.length<m+f->b.length<m'+f->znm b m f=znm b m' f
 |0,m',f,h,h'=>by rw[zde b (by omega),zde b (by omega)]
 |m+1,0,f,h,h'=>by rw[zde b (by omega),zde b (by omega)]
 |m+1,m'+1,f,h,h'=>by
  unfold znm
  split
  ·cases he:zdU (b.drop f) with
   |none=>rfl
   |some e=>
    simp only
    split
    ·rfl
    ·cases hn:znd (slice b f (f+e)) with
     |none=>rfl
     |some n=>simp only;rw[zlD b m m' (f+e+2+n) (by omega) (by omega)]
  ·rfl
theorem zkm(b:LB):∀ (m f:Nat),f<=b.length->(znm b m f).1.length+f<=b.length/\∀ k,(znm b m f).2=some k->(znm b m f).1.length+f<=k/\f+2<=k/\k<=b.length
 |0,f,hf=>⟨by simp [znm];omega,fun k h=>by cases h⟩
 |m+1,f,hf=>by
  unfold znm
  rw[if_pos hf]
  cases he:zdU (b.drop f) with
  |none=>exact⟨by simp;omega,fun k h=>by cases h⟩
  |some e=>
   have:=zic he
   simp only
   split
   ·exact⟨by simp;omega,fun k h=>by cases h;simp;omega⟩
   ·cases hn:znd (slice b f (f+e)) with
    |none=>exact⟨by simp;omega,fun k h=>by cases h;simp;omega⟩
    |some n=>
     simp only
     split
     ·exact⟨by simp;omega,fun k h=>by cases h;simp;omega⟩
     ·by_cases hg:f+e+2+n<=b.length
      ·obtain⟨h1,h2⟩:=zkm b m (f+e+2+n) hg
       exact⟨by simp only[yX];omega,fun k h=>by have:=h2 k h;simp only[yX];omega⟩
      ·rw[zde b (by omega)]
       exact⟨by simp;omega,fun k h=>by cases h⟩
def zht(b:LB)(f:Nat):List Frm×Option Nat:=znm b (b.length+1) f
theorem zq1(b:LB){f:Nat}(hf:f<=b.length):zht b f=match zdU (b.drop f) with
  |none=>([],none)
  |some e=>if 8192<(slice b f (f+e)).length then([(3,(slice b f (f+e)).take 8192)],some (f+e+2)) else match znd (slice b f (f+e)) with
   |none=>([(1,b.take (f+e))],some (f+e+2))
   |some n=>if 65536<n then([(4,b.take (f+e))],some (f+e+2)) else((2,[])::(zht b (f+e+2+n)).1,(zht b (f+e+2+n)).2):=by
 unfold zht
 rw[show znm b (b.length+1) f=_ from rfl]
 conv=>lhs;unfold znm
 rw[if_pos hf]
 cases he:zdU (b.drop f) with
 |none=>rfl
 |some e=>
  simp only
  split
  ·rfl
  ·cases hn:znd (slice b f (f+e)) with
   |none=>rfl
   |some n=>simp only;rw[zlD b b.length (b.length+1) (f+e+2+n) (by omega) (by omega)]
def zv8:Nat->LB->List Frm×Nat
 |0,b=>([],b.length)
 |m+1,b=>match(zht b 0).2 with
  |none=>((zht b 0).1,b.length)
  |some k=>((zht b 0).1++(zv8 m (b.drop k)).1,(zv8 m (b.drop k)).2)
theorem zmV:∀ (m m':Nat) (b:LB),b.length<m->b.length<m'->zv8 m b=zv8 m' b
 |0,_,b,h,_=>by omega
 |m+1,0,b,_,h=>by omega
 |m+1,m'+1,b,h,h'=>by
  unfold zv8
  cases hc:(zht b 0).2 with
  |none=>rfl
  |some k=>
   have:=(zkm b (b.length+1) 0 (yQ _)).2 k hc
   simp only
   rw[zmV m m' (b.drop k) (by rw[yn];omega) (by rw[yn];omega)]
def zdI(b:LB):List Frm×Nat:=zv8 (b.length+1) b
def zaW(b:LB)(f:Nat):List Frm×Nat:=match(zht b f).2 with
 |none=>((zht b f).1,b.length)
 |some k=>((zht b f).1++(zdI (b.drop k)).1,(zdI (b.drop k)).2)
theorem zec(b:LB):zdI b=zaW b 0:=by
 unfold zdI zaW
 rw[show zv8 (b.length+1) b=_ from rfl]
 conv=>lhs;unfold zv8
 cases hc:(zht b 0).2 with
 |none=>rfl
 |some k=>
  have:=(zkm b (b.length+1) 0 (yQ _)).2 k hc
  simp only
  unfold zdI
  rw[zmV b.length ((b.drop k).length+1) (b.drop k) (by rw[yn];omega) (by omega)]
def znp:(Int×List Frm) ⊕ List Frm->List Frm×Int
 |.inl a=>(a.2,a.1)
 |.inr b=>(b,-1)
def ztV:Option Nat->Int
 |none=>-1
 |some k=>(k:Int)
theorem zq2(N:Nat){b:LB}(hb:b.length<=100000)(hN:b.length<N)(hN2:20<=N):∀ (m f:Nat) (out:List Frm),0<m->b.length<m+f->out.length<=f->f<=200000->∃ o,qT N m b (f:Int) out=some o/\znp o=(out++(zht b f).1,ztV (zht b f).2)
 |0,f,out,hm,h,ho,hf2=>by omega
 |m+1,f,out,hm,h,ho,hf2=>by
  unfold qT zaV
  by_cases hf:f<=b.length
  ·rw[decide_eq_true (by omega:(f:Int)<=((b.length:Nat):Int)),cond_true,zwK N (by omega) hN hf,ye,zq1 b hf]
   cases he:zdU (b.drop f) with
   |none=>exact⟨_,rfl,by simp [znp,ztV]⟩
   |some e=>
    have hle:=zic he
    have hsl:(slice b f (f+e)).length<=b.length:=j9
    simp only
    rw[decide_eq_false (by omega),cond_false,wR (by omega) (by omega)]
    simp only[yA,cond_true,yg]
    have hlo:yk (out.length+1) zG=true:=zaj (by omega)
    by_cases h8:8192<(slice b f (f+e)).length
    ·have hb2:wo (0:Int) (8192:Int) (slice b f (f+e)).length=true:=wR (a:=0) (b:=8192) (by omega) (by omega)
     have hb3:yk (0+(slice (slice b f (f+e)) 0 8192).length) zG=true:=zaj (by have:=@j9 _ (slice b f (f+e)) 0 8192;omega)
     rw[decide_eq_true (by omega),cond_true,hb2,hb3,hlo,if_pos h8]
     simp only[cond_true,yA]
     rw[wri (by omega) (by omega)]
     refine⟨_,rfl,?_⟩
     simp only[znp,ztV,wL,yv]
     congr 1
    ·rw[decide_eq_false (by omega),cond_false,zwx N (by omega) (by omega) hN2,if_neg h8]
     cases hn:znd (slice b f (f+e)) with
     |none=>
      have hb2:wo (0:Int) ((f+e:Nat):Int) b.length=true:=wR (a:=0) (by omega) (by omega)
      have hb3:yk (0+(slice b 0 (f+e)).length) zG=true:=zaj (by have:=@j9 _ b 0 (f+e);omega)
      simp only[zvt,ye,yC,cond_true,hb2,hb3,hlo,yA]
      rw[wri (by omega) (by omega)]
      refine⟨_,rfl,?_⟩
      simp only[znp,ztV,wL,yv]
      congr 1
     |some n=>
      simp only[zvt,ye,yu,cond_false]
      by_cases hn6:65536<n
      ·have hb2:wo (0:Int) ((f+e:Nat):Int) b.length=true:=wR (a:=0) (by omega) (by omega)
       have hb3:yk (0+(slice b 0 (f+e)).length) zG=true:=zaj (by have:=@j9 _ b 0 (f+e);omega)
       rw[decide_eq_true (by omega),cond_true,hb2,hb3,hlo,if_pos hn6]
       simp only[cond_true,yA]
       rw[wri (by omega) (by omega)]
       refine⟨_,rfl,?_⟩
       simp only[znp,ztV,wL,yv]
       congr 1
      ·rw[decide_eq_false (by omega),cond_false,hlo,cond_true,if_neg hn6,wri (x:=((f+e:Nat):Int)+2) (by omega) (by omega),wri (by omega) (by omega),show(((f+e:Nat):Int)+2+(n:Int))=((f+e+2+n:Nat):Int) by omega]
       obtain⟨o,h1,h2⟩:=zq2 N hb hN hN2 m (f+e+2+n) (out++[(2,[])]) (by omega) (by omega) (by simp;omega) (by omega)
       exact⟨o,h1,by rw[h2];simp⟩
  ·rw[decide_eq_false (by omega),cond_false]
   refine⟨_,rfl,?_⟩
   unfold zht
   rw[zde b (by omega)]
   simp [znp,ztV]
theorem zwG(N:Nat){b:LB}(hb:b.length<=100000)(hN:b.length<N)(hN2:20<=N):zad N b=some ((zht b 0).1,ztV (zht b 0).2,()):=by
 unfold zad
 obtain⟨o,h1,h2⟩:=zq2 N hb hN hN2 N 0 [] (by omega) (by omega) (by simp) (by omega)
 rw[show((0:Nat):Int)=0 from rfl] at h1
 rw[h1,ye]
 cases o<;>(simp only[znp,yv,yE] at h2;simp only[ze,h2.1,h2.2])
theorem zmS(N C:Nat)(hC:C<=100000)(hN:C<N)(hN2:20<=N):∀ (m:Nat) (b:LB) (out:List Frm),b.length<m->out.length+b.length<=C->jL N m b out=some (((zdI b).2:Int),out++(zdI b).1)
 |0,b,out,h,ho=>by omega
 |m+1,b,out,h,ho=>by
  have hok:=zkm b (b.length+1) 0 (yQ _)
  change (zht b 0).1.length+0<=b.length/\∀ k,(zht b 0).2=some k->(zht b 0).1.length+0<=k/\0+2<=k/\k<=b.length at hok
  obtain⟨hk1,hk2⟩:=hok
  unfold jL zbU
  rw[zwG N (by omega) (by omega) hN2,ye,zec]
  unfold zaW
  have hb:yk (out.length+(zht b 0).1.length) zG=true:=zaj (by omega)
  simp only[hb,cond_true]
  cases hc:(zht b 0).2 with
  |none=>simp only[ztV];rfl
  |some k=>
   obtain⟨q1,q2,q3⟩:=hk2 k hc
   have hk0:¬ ((k:Int)<0):=by omega
   simp only[ztV,hk0,decide_false,cond_false,zdS q3,yA,cond_true,yg,zcl]
   rw[zmS N C hC hN hN2 m (b.drop k) _ (by rw[yn];omega) (by rw[List.length_append,yn];omega),yP]
theorem zte(N:Nat){b:LB}(hb:b.length<=100000)(hN:b.length<N)(hN2:20<=N):zbp N b=some ((zdI b).1,((zdI b).2:Int),()):=by
 unfold zbp
 rw[zmS N b.length hb hN hN2 N b [] hN (by simp),ye,yv]
theorem zky(N:Nat){b l:LB}{at_ sk se:Int}(hb:b.length<=100000)(hl:l.length<=100000){k:Int}{n:Nat}(hn:n<=b.length):zV N (b,(at_,(sk,se))) k l (n:Int)=some ((b.drop n,(0,(0,0))),(k,l),true,()):=by
 unfold zV
 rw[zkl N l (by omega),ye]
 simp only[zdS hn,yA,cond_true,yg,zcl]
 rw[zkl N _ (by rw[yn];omega),ye]
def znD(b:LB)(f:Nat):Option (Frm×LB×Nat×Nat):=match zdU (b.drop f) with
 |none=>none
 |some e=>if 8192<(slice b f (f+e)).length then some ((3,(slice b f (f+e)).take 8192),b.drop (f+e+2),0,0) else match znd (slice b f (f+e)) with
  |none=>some ((1,b.take (f+e)),b.drop (f+e+2),0,0)
  |some n=>if 65536<n then some ((4,b.take (f+e)),b.drop (f+e+2),0,0) else some ((2,[]),b,f+e+2,n)
theorem zuu(N:Nat){b:LB}{a s:Nat}{se:Int}(hb:b.length<=100000)(ha:a<=b.length)(hs:s<=100000)(hf:b.length<a+s):zJ N (b,((a:Int),((s:Int),se)))=some ((b,((a:Int),((s:Int),se))),(0,[]),false,()):=by
 unfold zJ qa
 simp only
 rw[wri (by omega) (by omega),decide_eq_true (by omega),cond_true,ye]
 rfl
theorem zms(N:Nat){b:LB}{a s:Nat}{se:Int}(hb:b.length<=100000)(hN:b.length<N)(hN2:20<=N)(hf:a+s<=b.length):match znD b (a+s) with
  |none=>∃ se',zJ N (b,((a:Int),((s:Int),se)))=some ((b,(((a+s:Nat):Int),((0:Int),se'))),(0,[]),false,())
  |some (fr,b',a',s')=>∃ se',zJ N (b,((a:Int),((s:Int),se)))=some ((b',((a':Int),((s':Int),se'))),fr,true,()):=by
 have hlit:qa N (b,((a:Int),((s:Int),se)))=some ((b,(((a+s:Nat):Int),((0:Int),((a+s:Nat):Int)))),true,()):=by
  unfold qa
  simp only
  rw[wri (x:=((b.length:Nat):Int)-(a:Int)) (by omega) (by omega),decide_eq_false (by omega),cond_false,wri (by omega) (by omega)]
  rfl
 generalize hfq:a+s=f at *
 have hlen:(b.drop f).length<=100000:=by rw[yn];omega
 have hline:jd N (b,((f:Int),((0:Int),(f:Int))))=match zdU (b.drop f) with
   |none=>some ((b,((f:Int),((0:Int),(if ya .i64 (((b.length:Nat):Int)-1) > (f:Int) then ya .i64 (((b.length:Nat):Int)-1) else(f:Int))))),(0:Int),false,())
   |some e=>some ((b,((f:Int),((0:Int),(f:Int)))),((f+e:Nat):Int),true,()):=by
  unfold jd
  have hl32:yF (b.drop f).length zd1=true:=by simp [zd1];omega
  simp only[zdS hf,yA,cond_true,yg,zcl,hl32,zlV]
  cases he:zdU (b.drop f) with
  |none=>rfl
  |some e=>
   have:=zic he
   simp only
   rw[decide_eq_false (by omega),cond_false,wri (by omega) (by omega)]
   rfl
 unfold zJ
 rw[hlit,ye]
 simp only[yu,cond_false]
 rw[hline]
 unfold znD
 cases he:zdU (b.drop f) with
 |none=>exact⟨_,rfl⟩
 |some e=>
  have hle:=zic he
  have hsl:(slice b f (f+e)).length<=b.length:=j9
  simp only[ye,yu,cond_false]
  rw[wR (by omega) (by omega)]
  simp only[yA,cond_true,yg]
  rw[ztR N (by omega) (by omega) (by omega)]
  have hw2:ya .i64 (((f+e:Nat):Int)+2)=((f+e+2:Nat):Int):=by rw[wri (by omega) (by omega)];omega
  have hb2:wo (0:Int) ((f+e:Nat):Int) b.length=true:=wR (a:=0) (by omega) (by omega)
  by_cases h8:8192<(slice b f (f+e)).length
  ·have hb3:wo (0:Int) (8192:Int) (slice b f (f+e)).length=true:=wR (a:=0) (b:=8192) (by omega) (by omega)
   simp only[zvt,ye,if_pos h8]
   rw[decide_eq_true (by omega),cond_true,hb3,hw2]
   simp only[yA,cond_true]
   rw[zky N hb (by have:=@j9 _ (slice b f (f+e)) 0 8192;omega) (by omega),ye,wL]
   exact⟨_,rfl⟩
  ·simp only[zvt,ye,if_neg h8]
   rw[decide_eq_false (by omega),cond_false]
   cases hn:znd (slice b f (f+e)) with
   |none=>
    simp only[yC,cond_true,hb2,yA]
    rw[hw2,zky N hb (by have:=@j9 _ b 0 (f+e);omega) (by omega),ye,wL]
    exact⟨_,rfl⟩
   |some n=>
    simp only[yu,cond_false]
    by_cases hn6:65536<n
    ·rw[decide_eq_true (by omega),cond_true,if_pos hn6]
     simp only[hb2,yA,cond_true]
     rw[hw2,zky N hb (by have:=@j9 _ b 0 (f+e);omega) (by omega),ye,wL]
     exact⟨_,rfl⟩
    ·rw[decide_eq_false (by omega),cond_false,if_neg hn6,hw2]
     exact⟨_,rfl⟩
theorem zdT{b:LB}{f:Nat}(h:b.length<f):zaW b f=([],b.length):=by
 unfold zaW zht
 rw[zde b h]
theorem zay{b:LB}{f:Nat}(hf:f<=b.length):zaW b f=match znD b f with
  |none=>([],b.length)
  |some (fr,b',a',s')=>(fr::(zaW b' (a'+s')).1,(zaW b' (a'+s')).2):=by
 have fin:∀ (fr:Frm) (k:Nat),zht b f=([fr],some k)->zaW b f=(fr::(zaW (b.drop k) (0+0)).1,(zaW (b.drop k) (0+0)).2):=fun fr k h=>by
  unfold zaW
  rw[h]
  simp only
  rw[zec]
  rfl
 have hc:=zq1 b hf
 unfold znD
 cases he:zdU (b.drop f) with
 |none=>
  rw[he] at hc
  unfold zaW
  rw[hc]
 |some e=>
  rw[he] at hc
  simp only at hc |-
  by_cases h8:8192<(slice b f (f+e)).length
  ·rw[if_pos h8] at hc |-
   exact fin _ _ hc
  ·rw[if_neg h8] at hc |-
   cases hn:znd (slice b f (f+e)) with
   |none=>rw[hn] at hc;exact fin _ _ hc
   |some n=>
    rw[hn] at hc
    simp only at hc |-
    by_cases h6:65536<n
    ·rw[if_pos h6] at hc |-
     exact fin _ _ hc
    ·rw[if_neg h6] at hc |-
     simp only
     unfold zaW
     rw[hc]
     simp only
     cases(zht b (f+e+2+n)).2<;>rfl
theorem zdV{b b':LB}{f a' s':Nat}{fr:Frm}(h:znD b f=some (fr,b',a',s')):b'.length<=b.length/\a'<=b'.length/\s'<=65536/\b'.length-(a'+s')+2<=b.length-f/\fr.2.length<=b.length/\∃ k,b'=b.drop k:=by
 unfold znD at h
 cases he:zdU (b.drop f) with
 |none=>rw[he] at h;cases h
 |some e=>
  have hle:=zic he
  have hsl:(slice b f (f+e)).length<=b.length:=j9
  rw[he] at h
  simp only at h
  split at h
  ·cases h
   refine⟨by rw[yn];omega,yQ _,by omega,by rw[yn];omega,by simp only[yS];omega,_,rfl⟩
  ·split at h
   ·cases h
    refine⟨by rw[yn];omega,yQ _,by omega,by rw[yn];omega,by simp only[yS];omega,_,rfl⟩
   ·split at h
    ·cases h
     refine⟨by rw[yn];omega,yQ _,by omega,by rw[yn];omega,by simp only[yS];omega,_,rfl⟩
    ·cases h
     refine⟨yw _,by omega,by omega,by omega,by simp,0,rfl⟩
theorem zmT(N C:Nat)(hC:C<=100000)(hN:100000<N):∀ (m:Nat) (b:LB) (a s:Nat) (se:Int) (out:List Frm),b.length<=100000->a<=b.length->s<=65536->b.length-(a+s)<m->out.length+(b.length-(a+s))<=C ->
  ∃ b' a' s' se',qx N m b (a:Int) (s:Int) se out=some (b',a',s',se',out++(zaW b (a+s)).1)/\b'.length=(zaW b (a+s)).2
 |0,b,a,s,se,out,hb,ha,hs,h,ho=>by omega
 |m+1,b,a,s,se,out,hb,ha,hs,h,ho=>by
  unfold qx zbK
  by_cases hf:a+s<=b.length
  ·have hp:=zms N (se:=se) hb (by omega) (by omega) hf
   rw[zay hf]
   cases hx:znD b (a+s) with
   |none=>
    rw[hx] at hp
    obtain⟨se',hp⟩:=hp
    rw[hp]
    exact⟨_,_,_,_,by simp only[ye,yC,cond_true];rw[yY],rfl⟩
   |some w=>
    obtain⟨fr,b',a',s'⟩:=w
    rw[hx] at hp
    obtain⟨se',hp⟩:=hp
    obtain⟨h1,h2,h3,h4,h5,_⟩:=zdV hx
    have hlo:yk (out.length+1) zG=true:=zaj (by omega)
    obtain⟨b2,a2,s2,se2,q1,q2⟩:=zmT N C hC hN m b' a' s' se' (out++[fr]) (by omega) h2 h3 (by omega) (by simp;omega)
    refine⟨b2,a2,s2,se2,?_,q2⟩
    rw[hp]
    simp only[ye,yu,cond_false,hlo,cond_true]
    rw[q1,yP]
    rfl
  ·rw[zuu N hb ha (by omega) (by omega),zdT (by omega)]
   exact⟨_,_,_,_,by simp only[ye,yC,cond_true];rw[yY],rfl⟩
theorem zj2(N:Nat){b:LB}(hb:b.length<=100000)(hN:100000<N):qi N b=some ((zdI b).1,((zdI b).2:Int),()):=by
 unfold qi
 have hp:=zms N (b:=b) (a:=0) (s:=0) (se:=0) hb (by omega) (by omega) (yQ _)
 rw[show((0:Nat):Int)=0 from rfl] at hp
 have hlo:yk b.length zG=true:=zaj (by omega)
 rw[hlo,cond_true,zec,show zaW b 0=zaW b (0+0) from rfl,zay (yQ _)]
 cases hx:znD b (0+0) with
 |none=>
  rw[hx] at hp
  obtain⟨se',hp⟩:=hp
  rw[hp]
  rfl
 |some w=>
  obtain⟨fr,b',a',s'⟩:=w
  rw[hx] at hp
  obtain⟨se',hp⟩:=hp
  obtain⟨h1,h2,h3,h4,h5,_⟩:=zdV hx
  obtain⟨b2,a2,s2,se2,q1,q2⟩:=zmT N 100000 (by omega) hN N b' a' s' se' [fr] (by omega) h2 h3 (by omega) (by simp;omega)
  rw[hp]
  simp only[ye,yu,cond_false]
  rw[q1]
  simp only[ye,jc,q2]
  rfl
theorem zia:∀ (m:Nat) (b:LB) (f:Nat),b.length-f<m->(zaW b f).1.length<=b.length-f
 |0,b,f,h=>by omega
 |m+1,b,f,h=>by
  by_cases hf:f<=b.length
  ·rw[zay hf]
   cases hx:znD b f with
   |none=>simp
   |some w=>
    obtain⟨fr,b',a',s'⟩:=w
    obtain⟨h1,h2,h3,h4,h5,_⟩:=zdV hx
    have:=zia m b' (a'+s') (by omega)
    simp only[yX];omega
  ·rw[zdT (by omega)];simp
theorem zgO(b:LB):(zdI b).1.length<=b.length:=by rw[zec];exact zia (b.length+1) b 0 (by omega)
abbrev Tok:=Int×(LB×Int)
def kG(b:LB)(i:Nat):Option (Tok×Nat):=
 match b[i]? with
 |none=>some ((0,[],(i:Int)),i)
 |some c=>
  if c=32 then some ((1,[],(i:Int)),i+1)
  else if c=40 then some ((2,[],(i:Int)),i+1)
  else if c=41 then some ((3,[],(i:Int)),i+1)
  else if c=34 then match sq (b.drop (i+1)) with
   |some (r,n)=>some ((5,r,(i:Int)),i+1+n)
   |none=>none
  else if c=123 then match posOf 125 (b.drop (i+1)) with
   |none=>none
   |some k=>match zeD (slice b (i+1) (i+1+k)) with
    |none=>none
    |some n=>if n<=65536/\b[i+1+k+1]?=some 13/\b[i+1+k+2]?=some 10/\i+1+k+3+n<=b.length then some ((6,slice b (i+1+k+3) (i+1+k+3+n),(i:Int)),i+1+k+3+n) else none
  else if 0<run qA (b.drop i) then some ((4,slice b i (i+run qA (b.drop i)),(i:Int)),i+run qA (b.drop i))
  else none
theorem zpf{b:LB}{i n:Nat}{t:Tok}(hi:i<b.length)(h:kG b i=some (t,n)):i<n/\n<=b.length:=by
 unfold kG at h
 rw[yi hi] at h
 simp only at h
 split at h
 ·cases h;omega
 ·split at h
  ·cases h;omega
  ·split at h
   ·cases h;omega
   ·split at h
    ·split at h
     ·rename_i r k hr
      have:=zpy _ hr
      rw[yn] at this
      cases h;omega
     ·cases h
    ·split at h
     ·split at h
      ·cases h
      ·rename_i k hk
       split at h
       ·cases h
       ·split at h
        ·rename_i hc
         cases h;omega
        ·cases h
     ·split at h
      ·have:=zpp qA (b.drop i)
       rw[yn] at this
       cases h;omega
      ·cases h
theorem zxk{b:LB}{i:Nat}(hi:i<b.length)(hc:b[i]=34):zAk b i=match sq (b.drop (i+1)) with
  |some (r,n)=>some (r,((i+1+n:Nat):Int),true,())
  |none=>some ([],0,false,()):=by
 unfold zAk
 rw[yi hi,hc,if_pos rfl]
 cases sq (b.drop (i+1)) with
 |none=>rfl
 |some p=>obtain⟨r,n⟩:=p;rfl
theorem zz9(N:Nat)(b:LB)(hb:b.length<=20000)(i:Nat):∀ (m p:Nat),p<=b.length->b.length<m+p ->
  qp N m ((i:Nat):Int) b ((p:Nat):Int)=some (((i:Nat):Int),b,((p+run qA (b.drop p):Nat):Int))
 |0,p,h,h'=>by omega
 |m+1,p,h,h'=>by
  unfold qp zbg
  by_cases hi:p<b.length
  ·simp only[zhP hi,cond_true,jh hi,yg,wO (u:=.u8) hi,zBr,ye,drop_one hi,run]
   cases hc:qA b[p] with
   |true=>
    simp only[cond_true,if_true]
    rw[wri (by omega) (by omega),show((p:Int)+1)=((p+1:Nat):Int) by omega,zz9 N b hb i m (p+1) (by omega) (by omega)]
    congr 4;omega
   |false=>simp
  ·simp only[zhO hi,cond_false]
   rw[yN (by omega)]
   simp [run]
def zdt(b:LB):Nat->Nat->List Tok ⊕ Nat
 |0,i=>.inr i
 |f+1,i=>match kG b i with
  |none=>.inr i
  |some (t,n)=>if b.length<=i then .inl [t] else match zdt b f n with
   |.inl l=>.inl (t::l)
   |.inr a=>.inr a
theorem zA9{b:LB}{i n:Nat}{t:Tok}(h:kG b i=some (t,n)):t.1=0↔b.length<=i:=by
 unfold kG at h
 by_cases hi:i<b.length
 ·rw[yi hi] at h
  simp only at h
  constructor
  ·intro h0
   exfalso
   split at h
   ·cases h;simp at h0
   ·split at h
    ·cases h;simp at h0
    ·split at h
     ·cases h;simp at h0
     ·split at h
      ·split at h<;>cases h;simp at h0
      ·split at h
       ·split at h
        ·cases h
        ·split at h
         ·cases h
         ·split at h<;>cases h;simp at h0
       ·split at h<;>cases h;simp at h0
  ·intro;omega
 ·rw[yW (by omega)] at h
  cases h
  exact⟨fun _=>by omega,fun _=>rfl⟩
def zBo(o:List Tok ⊕ Nat):Option ((List Tok)×Int×Unit):=some (match o with
 |.inl l=>(l,-1,())
 |.inr a=>([],((a:Nat):Int),()))
theorem zvT(N:Nat)(b:LB)(hb:b.length<=20000)(hN:20<=N)(hN2:b.length<N):∀ (m i:Nat) (out:List Tok),i<=b.length->out.length<=i->b.length<m+i ->
  (∀ l,zdt b m i=.inl l->∃ x y,zL N m b ((i:Nat):Int) out=some (Sum.inl (x,y,out++l)))/\(∀ a,zdt b m i=.inr a->∃ x y z,zL N m b ((i:Nat):Int) out=some (Sum.inr (((a:Nat):Int),x,y,z)))
 |0,i,out,h,ho,h'=>by omega
 |m+1,i,out,h,ho,h'=>by
  unfold zL zbf zdt
  have recu:∀ (t:Tok) (n:Nat),kG b i=some (t,n)->i<b.length->(∀ l,(match kG b i with
    |none=>.inr i
    |some (t,n)=>if b.length<=i then .inl [t] else match zdt b m n with
     |.inl l=>.inl (t::l)
     |.inr a=>.inr a:List Tok ⊕ Nat)=.inl l->∃ x y,zL N m b ((n:Nat):Int) (out++[t])=some (Sum.inl (x,y,out++l)))/\(∀ a,(match kG b i with
    |none=>.inr i
    |some (t,n)=>if b.length<=i then .inl [t] else match zdt b m n with
     |.inl l=>.inl (t::l)
     |.inr a=>.inr a:List Tok ⊕ Nat)=.inr a->∃ x y z,zL N m b ((n:Nat):Int) (out++[t])=some (Sum.inr (((a:Nat):Int),x,y,z))):=by
   intro t n hn hlt
   have hl:=zpf hlt hn
   obtain⟨q1,q2⟩:=zvT N b hb hN hN2 m n (out++[t]) (by omega) (by simp;omega) (by omega)
   rw[hn]
   simp only[if_neg (show ¬ b.length<=i by omega)]
   cases hr:zdt b m n with
   |inl l=>
    obtain⟨x,y,h3⟩:=q1 l hr
    exact⟨fun l' h=>by cases h;exact⟨x,y,by rw[h3,yP];rfl⟩,fun a h=>by cases h⟩
   |inr a=>
    obtain⟨x,y,z,h3⟩:=q2 a hr
    exact⟨fun l' h=>(by cases h),fun a' h=>by cases h;exact⟨x,y,z,h3⟩⟩
  have stop:kG b i=none->∀ (x:LB) (y:Int) (z:List Tok),(∀ l,(match kG b i with
    |none=>.inr i
    |some (t,n)=>if b.length<=i then .inl [t] else match zdt b m n with
     |.inl l=>.inl (t::l)
     |.inr a=>.inr a:List Tok ⊕ Nat)=.inl l->∃ x' y',(some (Sum.inr (((i:Nat):Int),x,y,z)):Option ((LB×Int×List Tok) ⊕ (Int×LB×Int×List Tok)))=some (Sum.inl (x',y',out++l)))/\(∀ a,(match kG b i with
    |none=>.inr i
    |some (t,n)=>if b.length<=i then .inl [t] else match zdt b m n with
     |.inl l=>.inl (t::l)
     |.inr a=>.inr a:List Tok ⊕ Nat)=.inr a->∃ x' y' z',(some (Sum.inr (((i:Nat):Int),x,y,z)):Option ((LB×Int×List Tok) ⊕ (Int×LB×Int×List Tok)))=some (Sum.inr (((a:Nat):Int),x',y',z'))):=by
   intro hn x y z
   rw[hn]
   exact⟨fun l h=>(by cases h),fun a h=>by cases h;exact⟨_,_,_,rfl⟩⟩
  by_cases he:i=b.length
  ·subst he
   have hn:kG b b.length=some ((0,[],((b.length:Nat):Int)),b.length):=by unfold kG;rw[yW (yw _)]
   rw[hn]
   simp only[show(((b.length:Nat):Int)==((b.length:Nat):Int))=true from beq_self_eq_true _,cond_true,zaj (show out.length+1<=200000 by omega),yw,if_true]
   exact⟨fun l h=>by cases h;exact⟨_,_,rfl⟩,fun a h=>by cases h⟩
  ·have hlt:i<b.length:=by omega
   have e:(((i:Nat):Int)==((b.length:Nat):Int))=false:=by simp;omega
   have w1:ya .i64 ((i:Int)+1)=((i+1:Nat):Int):=by rw[wri (by omega) (by omega)];omega
   have hg:b[i]?=some b[i]:=yi hlt
   simp only[e,cond_false,jh hlt,cond_true,yg,wO (u:=.u8) hlt,w1,zaj (show out.length+1<=200000 by omega)]
   cases h1:b[i]==(32:UInt8) with
   |true=>
    rw[beq_iff_eq] at h1
    exact recu _ _ (by unfold kG;rw[hg];simp only[h1,if_true]) hlt
   |false=>
    have h1':¬ b[i]=32:=by simpa using h1
    cases h2:b[i]==(40:UInt8) with
    |true=>
     rw[beq_iff_eq] at h2
     exact recu _ _ (by unfold kG;rw[hg];simp only[if_neg h1',if_pos h2]) hlt
    |false=>
     have h2':¬ b[i]=40:=by simpa using h2
     cases h3:b[i]==(41:UInt8) with
     |true=>
      rw[beq_iff_eq] at h3
      exact recu _ _ (by unfold kG;rw[hg];simp only[if_neg h1',if_neg h2',if_pos h3]) hlt
     |false=>
      have h3':¬ b[i]=41:=by simpa using h3
      cases h4:b[i]==(34:UInt8) with
      |true=>
       rw[beq_iff_eq] at h4
       simp only[cond_false,cond_true,zuB N b (by omega) hN2 i hlt,zxk hlt h4]
       cases hs:sq (b.drop (i+1)) with
       |none=>
        simp only[ye,cond_false,yC,cond_true]
        exact stop (by unfold kG;rw[hg];simp only[if_neg h1',if_neg h2',if_neg h3',if_pos h4,hs]) _ _ _
       |some p=>
        obtain⟨r,n⟩:=p
        simp only[ye,cond_true,yu,cond_false]
        exact recu _ _ (by unfold kG;rw[hg];simp only[if_neg h1',if_neg h2',if_neg h3',if_pos h4,hs]) hlt
      |false=>
       have h4':¬ b[i]=34:=by simpa using h4
       cases h5:b[i]==(123:UInt8) with
       |true=>
        rw[beq_iff_eq] at h5
        simp only[cond_false,cond_true,zt8 N b hb (by omega) i hlt h5]
        unfold zAg
        cases hp:posOf 125 (b.drop (i+1)) with
        |none=>
         simp only[ye,cond_false,yC,cond_true]
         exact stop (by unfold kG;rw[hg];simp only[if_neg h1',if_neg h2',if_neg h3',if_neg h4',if_pos h5,hp]) _ _ _
        |some k=>
         cases hv:zeD (slice b (i+1) (i+1+k)) with
         |none=>
          simp only[hv,ye,cond_false,yC,cond_true]
          exact stop (by unfold kG;rw[hg];simp only[if_neg h1',if_neg h2',if_neg h3',if_neg h4',if_pos h5,hp,hv]) _ _ _
         |some n=>
          by_cases hc:n<=65536/\b[i+1+k+1]?=some 13/\b[i+1+k+2]?=some 10/\i+1+k+3+n<=b.length
          ·simp only[hv,if_pos hc,ye,cond_true,yu,cond_false]
           exact recu _ _ (by unfold kG;rw[hg];simp only[if_neg h1',if_neg h2',if_neg h3',if_neg h4',if_pos h5,hp,hv,if_pos hc]) hlt
          ·simp only[hv,if_neg hc,ye,cond_false,yC,cond_true]
           exact stop (by unfold kG;rw[hg];simp only[if_neg h1',if_neg h2',if_neg h3',if_neg h4',if_pos h5,hp,hv,if_neg hc]) _ _ _
       |false=>
        have h5':¬ b[i]=123:=by simpa using h5
        have hr:=zpp qA (b.drop i)
        rw[yn] at hr
        simp only[cond_false,zz9 N b hb i N i (by omega) (by omega),ye]
        have hbn:wo ((i:Nat):Int) ((i+run qA (b.drop i):Nat):Int) b.length=true:=wR (by omega) (by omega)
        simp only[hbn,yA,cond_true,yg]
        by_cases h0:0<run qA (b.drop i)
        ·have:decide (((i:Nat):Int)<((i+run qA (b.drop i):Nat):Int))=true:=by simp;omega
         simp only[this,yu,cond_false]
         exact recu _ _ (by unfold kG;rw[hg];simp only[if_neg h1',if_neg h2',if_neg h3',if_neg h4',if_neg h5',if_pos h0]) hlt
        ·have:decide (((i:Nat):Int)<((i+run qA (b.drop i):Nat):Int))=false:=by simp;omega
         simp only[this,yC,cond_true]
         exact stop (by unfold kG;rw[hg];simp only[if_neg h1',if_neg h2',if_neg h3',if_neg h4',if_neg h5',if_neg h0]) _ _ _
theorem ztr(N:Nat)(b:LB)(hb:b.length<=20000)(hN:20<=N)(hN2:b.length<N):xz N b=zBo (zdt b N 0):=by
 unfold xz zBo
 obtain⟨q1,q2⟩:=zvT N b hb hN hN2 N 0 [] (by omega) (by simp) (by omega)
 rw[show((0:Nat):Int)=(0:Int) from rfl] at q1 q2
 cases hr:zdt b N 0 with
 |inl l=>
  obtain⟨x,y,h⟩:=q1 l hr
  rw[h];rfl
 |inr a=>
  obtain⟨x,y,z,h⟩:=q2 a hr
  rw[h];rfl
end Go.Proofs.Model
