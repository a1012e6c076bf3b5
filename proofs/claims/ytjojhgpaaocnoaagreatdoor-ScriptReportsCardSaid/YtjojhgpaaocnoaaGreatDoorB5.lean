/- Machines and laws 5. -/
import Derived.Test.YtjojhgpaaocnoaaGreatDoorB4
import Derived.Test.YtjojhgpaaocnoaaGreatDoorB3
import Derived.ChangeArms
import Derived.ReadAgain
import Derived.ChangeSame
import Derived.Deep.DeepHandedRow
import Derived.Test.YtjojhgpaaocnoaaGreatDoorB1
import Derived.KernelRfl
import Derived.Shelf.Strings.OnBuilder
import Derived.Shelf.Strings.Split
import Derived.Shelf.Bytes.SlIndexWhole
import Derived.Shelf.Pu.ParseUintPublic10
import Derived.Shelf.Bytes.SlSplit
import Derived.Shelf.Bytes.SlSplitNil
import Derived.Shelf.Strings.Count
set_option linter.unusedVariables false
set_option linter.unusedSectionVars false
set_option linter.unusedSimpArgs false
set_option maxRecDepth 100000
namespace Go.Sx
open Go Go.Gx Go.Mx
variable [qE]
section
variable {P:Program} {gl:GL} {ct:CT} {hk:qc}
theorem ji.l2{pl:Pl}{a b:Code}(h:ji P gl hk pl (.seq a b)):ji P gl hk pl.l a/\ji P gl hk pl.r b:=by
 cases pl with
 |two x y=>exact h
 |by_ g=>cases h
 |_=>exact⟨trivial,trivial⟩
theorem ji.c2{pl:Pl}{c:Operand}{a b:Code}(h:ji P gl hk pl (.cond c a b)):ji P gl hk pl.l a/\ji P gl hk pl.r b:=by
 cases pl with
 |two x y=>exact h
 |by_ g=>cases h
 |_=>exact⟨trivial,trivial⟩
theorem ji.b1{pl:Pl}{id:Nat}{a:Code}(h:ji P gl hk pl (.block id a)):ji P gl hk pl.i a:=by
 cases pl with
 |one x=>exact h
 |_=>exact trivial
theorem ji.f1{pl:Pl}{a:Code}(h:ji P gl hk pl (.loop a))(hb:∀ g,pl≠.by_ g):ji P gl hk pl.f a/\ji P gl hk pl.nx (.loop a):=by
 cases pl with
 |one x=>exact⟨h,h⟩
 |two x y=>exact h
 |by_ g=>exact absurd rfl (hb g)
 |auto=>exact⟨trivial,trivial⟩
 |cal _ _ _ _=>exact⟨trivial,h⟩
 |yl _ _ _ _ _=>exact⟨trivial,h⟩
theorem ji.y{i id:Nat}{ps:Array Tmp}{asg body:Code}(hc:qE.at_ id=some (ps,asg,body)):∀ {pl:Pl} {c:Code},ji P gl hk pl c->ji P gl hk (pl.y i id).1 asg/\ji P gl hk (pl.y i id).2 body
 |.auto,_,_=>⟨trivial,trivial⟩
 |.two _ _,_,_=>⟨trivial,trivial⟩
 |.one _,_,_=>⟨trivial,trivial⟩
 |.by_ _,_,_=>⟨trivial,trivial⟩
 |.cal j g a rest,c,h=>ji.y hc (pl:=rest) h.2
 |.yl j d a b rest,c,h=>by
  unfold Pl.y
  split
  ·rename_i h1 h2
   cases zb h2
   exact h.1 _ _ _ hc
  ·exact ji.y hc h.2
theorem ji.at_{i:Nat}{f:FuncId}{fn:Func}{b:Code}(hf:P.funcs[f]?=some fn)(hb:fn.body=some b):∀ {pl:Pl} {c:Code},ji P gl hk pl c->ji P gl hk (pl.at i f) b
 |.auto,_,_=>trivial
 |.two _ _,_,_=>trivial
 |.one _,_,_=>trivial
 |.by_ _,_,_=>trivial
 |.yl _ _ _ _ rest,c,h=>ji.at_ hf hb (pl:=rest) h.2
 |.cal j g a rest,c,h=>by
  unfold Pl.at
  split
  ·rename_i h1 h2
   have h2:=zb h2
   subst h2
   exact h.1 fn b hf hb
  ·exact ji.at_ hf hb h.2
def zrt(P:Program)(gl:GL)(hk:qc)(ops:Array Oper)(l:List Oper)(f:LF):Prop:=∀ (k:Nat×Option Nat) (R:Type) (st:SS) (K:SX->SS->Option R) (r:R) (X:Gst) (ms:St),f R st K=some r->StR k X st ms->RH X->RGl P gl X ->
 ∃ e st' Y me ms',K e st'=some r/\Stp X Y/\StR k Y st' ms'/\ExR Y e me/\Ev fun n=>zjc ms.rnd (zeW P (qy P hk (qQ P hk n)) ops ms.rnd l ms.env ms.h ms.dl)=some (me,ms')
theorem zij{X:Gst}{ops:Array Oper}{env:List SV}{me:Arr AV}{j t:Nat}{b:Bool}(he:RVs X env me.toL)(h:zqL ops env j=some (t,b)):yl ops me j=some b/\sset env t (.a (.bool b))=env:=by
 unfold zqL at h
 split at h
 ·rename_i o ho
  split at h
  ·rename_i t' ht
   split at h
   ·rename_i b' hb
    cases h
    rw[xq] at hb
    rw[zhm]
    obtain⟨x,h1,h2⟩:=he.get hb
    cases(show x=_ from h2)
    have h1:me[t]?=some (.bool b):=Arr.zS.symm.trans h1
    exact⟨by simp only[yl,ho,ht,h1,isB],z7 hb⟩
   ·cases h
  ·cases h
 ·cases h
theorem zjS{o:Option SV}(h:zfi o=true):∃ l,o=some (.tup l):=by
 unfold zfi at h
 split at h
 ·exact⟨_,rfl⟩
 ·cases h
theorem zgv{X:Gst}{ops:Array Oper}{env:List SV}{me:Arr AV}{j:Nat}(he:RVs X env me.toL)(h:zii ops.toList env j=true):yl ops me j=none:=by
 unfold zii at h
 split at h
 ·rename_i o ho
  split at h
  ·rename_i t ht
   obtain⟨l,hl⟩:=zjS h
   rw[xq] at hl
   obtain⟨x,h1,h2⟩:=he.get hl
   obtain⟨l',rfl,_⟩:=h2
   have h1:me[t]?=some (.tup l'):=Arr.zS.symm.trans h1
   have ho:ops[j]?=some o:=by rw[<- Array.getElem?_toList];exact ho
   simp only[yl,ho,ht,h1,isB]
  ·cases h
 ·cases h
theorem zay:∀ {h0 h:SH} {i:Nat} {b':SB},(qI h0 h)[i]?=some b'->∃ b,h[i]?=some b/\(b=.gone->b'=.gone)
 | [],[],i,b',h=>by simp [qI] at h
 |_::_,[],i,b',h=>by simp [qI] at h
 | [],b::h,0,b',e=>by
  simp only[qI,List.getElem?_cons_zero,Option.some.injEq] at e
  exact⟨b,rfl,fun q=>by subst q;subst e;rfl⟩
 | [],b::h,i+1,b',e=>by
  simp only[qI,List.getElem?_cons_succ] at e
  obtain⟨b2,q1,q2⟩:=zay (h:=h) e
  exact⟨b2,by simpa using q1,q2⟩
 |b0::h0,b::h,0,b',e=>by
  simp only[qI,List.getElem?_cons_zero,Option.some.injEq] at e
  exact⟨b,rfl,fun q=>by subst q;subst e;split<;>rfl⟩
 |b0::h0,b::h,i+1,b',e=>by
  simp only[qI,List.getElem?_cons_succ] at e
  obtain⟨b2,q1,q2⟩:=zay (h:=h) e
  exact⟨b2,by simpa using q1,q2⟩
theorem Dk.same{k:Nat×Option Nat}{X:Gst}{h:za}{sh:SH}{dl:List Dfd}{rnd:Option Nat}(q:Dk k X dl rnd)(hh:h=X.h)(hz:∀ (i:Nat) (b':SB),sh[i]?=some b'->∃ b,X.sh[i]?=some b/\(b=.gone->b'=.gone)):Dk k ⟨h,X.Φ,X.σ,sh⟩ dl rnd:=by
 subst hh
 have kp:∀ {m},Kp X m->Kp ⟨X.h,X.Φ,X.σ,sh⟩ m:=fun p=>⟨p.lt,p.phi,fun i v b hb ho=>let⟨b0,h1,h2⟩:=hz i b hb;h2 (p.gone i v b0 h1 ho)⟩
 exact⟨q.base,q.nd,fun d hd=>let⟨m,h1,h2,h3,h4,h5⟩:=q.dl d hd;⟨m,h1,h2,h3,kp h4,h5⟩,q.rnd,fun m hm=>let⟨h1,h2⟩:=q.lo m hm;⟨h1,kp h2⟩⟩
theorem Kp.other{X:Gst}{m m':Nat}{k:Blk}(h:Kp X m):Kp ⟨X.h.set m' k,X.Φ,X.σ,X.sh⟩ m:=⟨by show m<(X.h.set m' k).length;rw[Arr.length_set];exact h.lt,h.phi,h.gone⟩
theorem zao{X:Gst}(hΦ:∀ m,X.Φ m->m<X.h.length):∀ {dl:List Dfd} {Y:Gst},(∀ d ∈ dl,∃ m,d=.mark m/\X.h.length<=m/\Y.h[m]?=some .dfr/\Kp Y m)->dl.Nodup->Stp X Y ->
  ∃ h',(∀ dcall l pn,mleave dcall (dl++l) Y.h pn=mleave dcall l h' pn)/\Stp X ⟨h',Y.Φ,Y.σ,Y.sh⟩/\Y.le ⟨h',Y.Φ,Y.σ,Y.sh⟩
 | [],Y,_,_,S=>⟨Y.h,fun _ _ _=>rfl,S,Gst.le_refl S.hr.len⟩
 |d::dl,Y,h,hn,S=>by
  obtain⟨m,rfl,h1,h2,h3⟩:=h d List.mem_cons_self
  obtain⟨hn1,hn2⟩:=List.nodup_cons.1 hn
  obtain⟨S1,l1⟩:=S.zrK h1 h3 .gone hΦ
  obtain⟨h',q1,q2,q3⟩:=zao hΦ (dl:=dl) (Y:=⟨Y.h.set m .gone,Y.Φ,Y.σ,Y.sh⟩) (fun d hd=>by
   obtain⟨m',rfl,k1,k2,k3⟩:=h d (List.mem_cons_of_mem _ hd)
   have hne:m'≠m:=fun e=>hn1 (e ▸ hd)
   exact⟨m',rfl,k1,by show(Y.h.set m .gone)[m']?=_;rw[Arr.zk (Ne.symm hne)];exact k2,k3.other⟩) hn2 S1
  exact⟨h',fun dcall l pn=>by simp only[List.cons_append,mleave,h2];exact q1 dcall l pn,q2,Gst.le_trans l1 q3⟩
theorem Stp.congr{X Y:Gst}{h:za}(hh:∀ m:Nat,h[m]?=X.h[m]?)(hl:h.length=X.h.length)(S:Stp ⟨h,X.Φ,X.σ,X.sh⟩ Y):Stp X Y:=
 ⟨⟨fun m q=>(S.le.h m q).trans (hh m),S.le.Φ,S.le.len,S.le.at_,S.le.seq,S.le.shl⟩,S.hr,⟨hl ▸ S.fm.len,fun m q k=>(S.fm.h m (show m<h.length by omega) k).trans (hh m),S.fm.md,fun i m v q k=>S.fm.new i m v q (show m<h.length by omega),S.fm.gone,fun m q k=>S.fm.phi m (show m<h.length by omega) k⟩⟩
theorem zhI{X:Gst}:∀ {ps:List Tmp} {args:List SV} {margs:List AV} {env:List SV} {me:Arr AV},RVs X env me.toL->RVs X args margs->RVs X ((ps.zip args).foldl (fun e p=>e.set p.1 p.2) env) ((ps.zip margs).foldl (fun e p=>e.set p.1 p.2) me).toL
 | [],_,_,_,_,h,_=>h
 |_::_,[],_,_,_,h,q=>by cases(show _=[] from q);exact h
 |p::ps,a::args,_,env,me,h,⟨x,xs,e,q1,q2⟩=>by
  subst e
  have:(me.set p x).toL=me.toL.set p x:=by
   refine List.ext_getElem? fun j=>?_
   rw[Arr.zS,Arr.zw,List.getElem?_set,Arr.zS,Arr.qz]
  exact zhI (ps:=ps) (env:=env.set p a) (me:=me.set p x) (by rw[this];exact h.set p q1) q2
theorem zht{n:Nat}{pa pb:Pl}{asg body:Code}(hA:zjb P gl hk asg fun R st K=>ke P gl ct (R:=R) n pa asg st K)(hB:zjb P gl hk body fun R st K=>ke P gl ct (R:=R) n pb body st K)
  {k:Nat×Option Nat} {X:Gst} {st:SS} {ms:St} (hs:StR k X st ms) (hr:RH X) (hg:RGl P gl X) {loc m id:Nat} {env args:List SV} {margs:List AV} {ps:Array Tmp} (hbk:st.h[loc]?=some (.loop env id 0)) (hcd:qE.at_ id=some (ps,asg,body)) (hsz:args.length=ps.size)
  (hat:X.at loc m) (hargs:RVs X args margs) {R:Type} {r:R} {dst:Option Nat} (κ:List SV->SH->Option R)
  (h:ke P gl ct n pa asg ⟨(ps.toList.zip args).foldl (fun e p=>e.set p.1 p.2) env,st.h.set loc .gone⟩ (fun e st1=>match e with
   |.normal=>ke P gl ct n pb body st1 fun e st2=>match e with
    |.normal=>match jH st.env dst (.a (.bool true)) with
     |some env1=>κ env1 (st2.h.set loc (.loop env id 0))
     |none=>none
    |_=>none
   |_=>none)=some r):
  ∃ (Y:Gst) (sh':SH) (h':za) (env1:List SV),Stp X Y/\Y.sh=sh'/\Y.h=h'/\RV Y (.a (.bool true)) (.bool true)/\jH st.env dst (.a (.bool true))=some env1/\κ env1 sh'=some r/\Ev fun f=>qy P hk (qQ P hk f) (.y m) margs ms.h=some (.ret (.bool true) h'):=by
 have hb:X.sh[loc]?=some (.loop env id 0):=by rw[hs.sh];exact hbk
 obtain⟨v,hσ⟩:=hat
 obtain⟨m',env',ps',asg',body',e,hc',hrow,henv⟩:=hr.blk _ _ _ hb hσ
 cases e
 rw[hcd] at hc';cases hc'
 have hi:=(List.getElem?_eq_some_iff.1 hb).1
 have hm:=hr.lt _ _ _ hσ
 have hΦX:¬ X.Φ m:=fun q=>(hr.own loc m 0 _ hb hσ q).elim (fun e=>by cases e) (fun e=>by cases e)
 have S0:=Stp.zrv hr hb (by simp) rfl
 have K1:Kp ⟨X.h,X.Φ,X.σ,X.sh.set loc .gone⟩ m:=⟨hm,hΦX,fun i v' b' hb' ho=>by
  have e:=hr.inj _ _ _ _ _ ho hσ
  subst e
  have hb':(X.sh.set i .gone)[i]?=some b':=hb'
  rw[List.getElem?_set_self hi] at hb';cases hb';rfl⟩
 obtain⟨e1,st1,Y1,me1,ms1,h1,S1,hs1,he1,ev1⟩:=hA (X.h.length,some m) R _ _ r ⟨X.h,X.Φ,X.σ,X.sh.set loc .gone⟩ ⟨(ps.toList.zip margs).foldl (fun e p=>e.set p.1 p.2) env',X.h,[],some m⟩ h
  ⟨(zhI henv hargs).le S0.le,by rw[<- hs.sh],rfl,Nat.le_refl _,List.nodup_nil,fun _ h=>(nomatch h),rfl,fun m' e=>by cases e;exact⟨⟨_,_,_,_,_,_,hrow⟩,K1⟩⟩ S0.hr (hg.le S0.le)
 cases e1<;>first|(cases h1;done)|skip
 cases me1<;>first|(cases he1;done)|skip
 obtain⟨K2,r1⟩:=K1.step S0.hr.len S1
 have r1:Y1.h[m]?=some (.loop env' ps asg body .ready none):=r1.trans hrow
 generalize hbz:(Blk.loop env' ps asg body .busy none)=bz at *
 have S1b:=S1.swap S0.hr K1 bz
 have hxlt:m<Y1.h.length:=K2.lt
 have lb:Y1.le ⟨Y1.h.set m bz,Y1.Φ,Y1.σ,Y1.sh⟩:=⟨fun m' hm'=>Arr.zk fun e=>K2.phi (e ▸ hm'),fun _ h=>h,Nat.le_refl _,fun _ _ v h=>⟨v,h⟩,fun _ _ l k md _ h=>⟨l,k,md,h,Nat.le_refl _,fun _=>⟨rfl,rfl⟩⟩,S1.hr.len⟩
 have gb:(Y1.h.set m bz)[m]?=some bz:=Arr.zj hxlt
 simp only at h1
 obtain⟨e2,st2,Y2,me2,ms2,h2,S2,hs2,he2,ev2⟩:=hB (X.h.length,some m) R _ _ r ⟨Y1.h.set m bz,Y1.Φ,Y1.σ,Y1.sh⟩ ⟨ms1.env,ms1.h.set m bz,ms1.dl,some m⟩ h1
  ⟨hs1.env.le lb,hs1.sh,by rw[<- hs1.h],by show X.h.length<=(Y1.h.set m bz).length;rw[Arr.length_set];exact hs1.dk.base,hs1.dk.nd,fun d hd=>by
   obtain⟨m',rfl,q1,q2,q3,q5⟩:=hs1.dk.dl d hd
   have hne:m'≠m:=fun e=>by rw[e,r1] at q2;cases q2
   exact⟨m',rfl,q1,by show(Y1.h.set m bz)[m']?=_;rw[Arr.zk (Ne.symm hne)];exact q2,q3.other,q5⟩,rfl,fun m' e=>by cases e;exact⟨⟨env',ps,asg,body,.busy,none,by rw[hbz];exact gb⟩,K2.other⟩⟩ S1b.hr ((hg.le S0.le).le S1.le |>.le lb)
 cases e2<;>first|(cases h2;done)|skip
 cases me2<;>first|(cases he2;done)|skip
 obtain⟨K3,r2⟩:=(show Kp ⟨Y1.h.set m bz,Y1.Φ,Y1.σ,Y1.sh⟩ m from K2.other).step S1b.hr.len S2
 have r2:Y2.h[m]?=some bz:=r2.trans gb
 generalize hrd:(Blk.loop env' ps asg body .ready none)=rd at *
 have S3:=(S1b.trans S2).swap (S0.hr.swap K1 bz) K1.other rd
 have S4:Stp ⟨X.h,X.Φ,X.σ,X.sh.set loc .gone⟩ ⟨Y2.h.set m rd,Y2.Φ,Y2.σ,Y2.sh⟩:=by
  refine Stp.congr (h:=(X.h.set m bz).set m rd) (fun m'=>?_) (by rw[Arr.length_set,Arr.length_set]) S3
  by_cases e:m'=m
  ·subst e;rw[Arr.zj (by rw[Arr.length_set];exact hm)];exact hrow.symm
  ·rw[Arr.zk (Ne.symm e),Arr.zk (Ne.symm e)]
 have S5:=Stp.again hr hb hσ (by simp) rfl (fun _ _ _ _ e=>by cases e) S4 fun hle=>⟨m,env',ps,asg,body,rfl,hcd,by rw[hrd];exact Arr.zj K3.lt,henv.le hle⟩
 simp only at h2
 split at h2
 ·rename_i env1 hset
  refine⟨_,_,_,env1,S5,rfl,rfl,rfl,hset,by rw[hs2.sh];exact h2,(ev1.and ev2).mono fun f ⟨p,q⟩=>?_⟩
  rw[<- hs.h]
  simp only[qy,zhR,hrow,<- hrd]
  rw[if_pos (by rw[hargs.length];exact hsz),p]
  have e3:ms1.rnd=some m:=hs1.dk.rnd
  simp only[zn7,<- hs1.h,r1,<- hrd]
  rw[hbz,hs1.h,q]
  simp only[zcW,<- hs2.h,r2,<- hbz]
 ·cases h2
theorem zg5(hct:zmV P gl ct hk):∀ n,
  (∀ pl c,ji P gl hk pl c->zjb P gl hk c fun R st K=>ke P gl ct (R:=R) n pl c st K) /\
  (∀ pl id ops i l,ji P gl hk pl (.region id ops false)->zrt P gl hk ops l fun R st K=>zf0 P gl ct (R:=R) n pl ops i l st K) /\
  (∀ pl f,(∀ fn b,P.funcs[f]?=some fn->fn.body=some b->ji P gl hk pl b)->zd2 P gl hk f fun R args h κ=>zaB P gl ct (R:=R) n pl f args h κ) /\
  (∀ pl id ops l env0 X0 hs,ji P gl hk pl (.region id ops true)->zah (infos l [])=true->qM P l=some hs->zo4 P gl ct hk l env0 X0 hs n pl):=by
 intro n
 induction n with
 |zero=>
  refine⟨fun pl c _=>?_,fun pl id ops i l _=>?_,fun pl f _=>?_,fun pl id ops l env0 X0 hs _ _ _=>zmq⟩
  ·intro k R st K r X ms h;simp [ke] at h
  ·intro k R st K r X ms h;simp [zf0] at h
  ·intro R args κ r X ms h;simp [zaB] at h
 |succ n ih=>
  obtain⟨ihC,ihO,ihF,ihD⟩:=ih
  refine⟨?_,?_,?_,fun pl id ops l env0 X0 hs hpl h1 h2=>zmp h1 h2 (fun i f=>ihF (pl.at i f) f fun fn b hf hb=>ji.at_ hf hb hpl) (ihD pl id ops l env0 X0 hs hpl h1 h2)⟩
  ·
   intro pl c hpl k R st K r X ms h hs hr hg
   have hg':=hg
   unfold ke at h
   cases c with
   |skip=>exact⟨.normal,st,X,.normal,ms,h,.refl hr,hs,trivial,Ev.succ (Ev.all fun n=>rfl)⟩
   |label=>exact⟨.normal,st,X,.normal,ms,h,.refl hr,hs,trivial,Ev.succ (Ev.all fun n=>rfl)⟩
   |ret=>exact⟨.ret,st,X,.ret,ms,h,.refl hr,hs,trivial,Ev.succ (Ev.all fun n=>rfl)⟩
   |exit id=>exact⟨.exit id,st,X,.exit id,ms,h,.refl hr,hs,rfl,Ev.succ (Ev.all fun n=>rfl)⟩
   |seq a b=>
    simp only at h
    obtain⟨e,st1,Y,me,ms1,h1,S1,hs1,he1,ev1⟩:=ihC _ _ hpl.l2.1 k R st _ r X ms h hs hr hg
    cases e with
    |normal=>
     cases me<;>first|cases he1|skip
     obtain⟨e2,st2,Z,me2,ms2,h2,S2,hs2,he2,ev2⟩:=ihC _ _ hpl.l2.2 k R st1 _ r Y ms1 h1 hs1 S1.hr (hg.le S1.le)
     exact⟨e2,st2,Z,me2,ms2,h2,S1.trans S2,hs2,he2,Ev.succ ((ev1.and ev2).mono fun n ⟨p,q⟩=>by simp only[qQ,zX,p,q])⟩
    |ret=>
     cases me<;>first|cases he1|skip
     exact⟨.ret,st1,Y,.ret,ms1,h1,S1,hs1,trivial,Ev.succ (ev1.mono fun n p=>by simp only[qQ,zX,p])⟩
    |exit id=>
     cases me<;>first|cases he1|skip
     exact⟨.exit id,st1,Y,.exit id,ms1,h1,S1,hs1,rfl,Ev.succ (ev1.mono fun n p=>by simp only[qQ,zX,p])⟩
    |panic v=>
     cases me<;>first|cases he1|skip
     exact⟨.panic v,st1,Y,.panic _,ms1,h1,S1,hs1,he1,Ev.succ (ev1.mono fun n p=>by simp only[qQ,zX,p])⟩
   |cond c a b=>
    simp only at h
    split at h
    ·rename_i t ht
     obtain⟨x,h1,h2⟩:=zc6 hs.env hg ht
     cases(show x=_ from h2)
     rw[hs.h] at h1
     cases t with
     |true=>
      obtain⟨e2,st2,Z,me2,ms2,h2,S2,hs2,he2,ev2⟩:=ihC _ _ hpl.c2.1 k R st _ r X ms h hs hr hg
      exact⟨e2,st2,Z,me2,ms2,h2,S2,hs2,he2,Ev.succ (ev2.mono fun n q=>by simp only[qQ,zX,h1,q])⟩
     |false=>
      obtain⟨e2,st2,Z,me2,ms2,h2,S2,hs2,he2,ev2⟩:=ihC _ _ hpl.c2.2 k R st _ r X ms h hs hr hg
      exact⟨e2,st2,Z,me2,ms2,h2,S2,hs2,he2,Ev.succ (ev2.mono fun n q=>by simp only[qQ,zX,h1,q])⟩
    ·cases h
   |block id a=>
    simp only at h
    obtain⟨e,st1,Y,me,ms1,h1,S1,hs1,he1,ev1⟩:=ihC _ _ hpl.b1 k R st _ r X ms h hs hr hg
    cases e with
    |normal=>
     cases me<;>first|cases he1|skip
     exact⟨.normal,st1,Y,.normal,ms1,h1,S1,hs1,trivial,Ev.succ (ev1.mono fun n p=>by simp only[qQ,zX,p])⟩
    |ret=>
     cases me<;>first|cases he1|skip
     exact⟨.ret,st1,Y,.ret,ms1,h1,S1,hs1,trivial,Ev.succ (ev1.mono fun n p=>by simp only[qQ,zX,p])⟩
    |exit i=>
     cases me<;>first|cases he1|skip
     simp only at h1
     split at h1
     ·rename_i hi
      have hi:=zb hi
      subst hi
      exact⟨.normal,st1,Y,.normal,ms1,h1,S1,hs1,trivial,Ev.succ (ev1.mono fun n p=>by simp only[qQ,zX,p];rw[if_pos trivial])⟩
     ·rename_i hi
      have hi:¬ i=id:=fun e=>by rw[e,Nat.beq_refl] at hi;cases hi
      exact⟨.exit i,st1,Y,.exit i,ms1,h1,S1,hs1,rfl,Ev.succ (ev1.mono fun n p=>by simp only[qQ,zX,p];rw[if_neg hi])⟩
    |panic v=>
     cases me<;>first|cases he1|skip
     exact⟨.panic v,st1,Y,.panic _,ms1,h1,S1,hs1,he1,Ev.succ (ev1.mono fun n p=>by simp only[qQ,zX,p])⟩
   |loop a=>
    simp only at h
    split at h
    ·rename_i g
     exact hpl k R st K r X ms h hs hr hg
    ·rename_i hby
     have hpl':=hpl.f1 hby
     obtain⟨e,st1,Y,me,ms1,h1,S1,hs1,he1,ev1⟩:=ihC _ _ hpl'.1 k R st _ r X ms h hs hr hg
     cases e with
     |normal=>
      cases me<;>first|cases he1|skip
      obtain⟨e2,st2,Z,me2,ms2,h2,S2,hs2,he2,ev2⟩:=ihC _ _ hpl'.2 k R st1 _ r Y ms1 h1 hs1 S1.hr (hg.le S1.le)
      exact⟨e2,st2,Z,me2,ms2,h2,S1.trans S2,hs2,he2,Ev.succ ((ev1.and ev2).mono fun n ⟨p,q⟩=>by simp only[qQ,zX,p,q])⟩
     |ret=>
      cases me<;>first|cases he1|skip
      exact⟨.ret,st1,Y,.ret,ms1,h1,S1,hs1,trivial,Ev.succ (ev1.mono fun n p=>by simp only[qQ,zX,p])⟩
     |exit id=>
      cases me<;>first|cases he1|skip
      exact⟨.exit id,st1,Y,.exit id,ms1,h1,S1,hs1,rfl,Ev.succ (ev1.mono fun n p=>by simp only[qQ,zX,p])⟩
     |panic v=>
      cases me<;>first|cases he1|skip
      exact⟨.panic v,st1,Y,.panic _,ms1,h1,S1,hs1,he1,Ev.succ (ev1.mono fun n p=>by simp only[qQ,zX,p])⟩
   |region id ops drawn=>
    cases drawn with
    |true=>
     simp only at h
     split at h
     ·exact hpl k R st K r X ms h hs hr hg
     split at h
     ·rename_i hs' hb hhs
      simp only[Bool.and_eq_true] at hb
      obtain⟨st',Y,ms',h1,S1,hs1,ev1⟩:=zfR (by simp only[Bool.and_eq_true];exact hb.1) hb.2 hhs (ihD pl id ops ops.toList ms.env X hs' hpl hb.1.2 hhs) h hs hr hg
      obtain⟨S2,hle⟩:=zos S1
      refine⟨.normal,⟨st'.env,qI st.h st'.h⟩,_,.normal,ms',h1,S2,⟨hs1.env.le hle,by rw[hs.sh,hs1.sh],hs1.h,hs1.dk.same rfl fun i b hb=>by
       obtain⟨b0,q1,q2⟩:=zay (h0:=X.sh) hb
       exact⟨b0,q1,q2⟩⟩,trivial,Ev.succ (ev1.mono fun n p=>?_)⟩
      simp only[qQ,zX]
      exact p
     ·cases h
    |false=>
     obtain⟨e,st1,Y,me,ms1,h1,S1,hs1,he1,ev1⟩:=ihO pl id ops 0 ops.toList hpl k R st K r X ms h hs hr hg
     exact⟨e,st1,Y,me,ms1,h1,S1,hs1,he1,Ev.succ (ev1.mono fun n p=>by simp only[qQ,zX];exact p)⟩
   |rangeFunc f ps a b=>
    simp only at h
    split at h
    ·exact hpl k R st K r X ms h hs hr hg
    ·cases h
   |_=>cases h
  ·
   intro pl id ops i l hpl k R st K r X ms h hs hr hg
   cases l with
   |nil=>
    simp only[zf0] at h
    exact⟨.normal,st,X,.normal,⟨ms.env,ms.h,ms.dl,ms.rnd⟩,h,.refl hr,⟨hs.env,hs.sh,hs.h,hs.dk⟩,trivial,Ev.all fun n=>rfl⟩
   |cons o l=>
    have hev:=EvR.of hs.env hg
    have next:∀ (v:SV) (x:AV) (sh':SH) (h':za) (Y:Gst) (env':List SV),Stp X Y->Y.sh=sh'->Y.h=h'->RV Y v x->jH st.env o.dst v=some env'->zf0 P gl ct n pl ops (i+1) l ⟨env',sh'⟩ K=some r ->
      Ev (fun m=>zau P (qy P hk (qQ P hk m)) o ms.env ms.h ms.dl ms.rnd=zge h' ms.dl (zdT ms.env o.dst x))->want ops o ms.env=true ->
      ∃ e st' Y me ms',K e st'=some r/\Stp X Y/\StR k Y st' ms'/\ExR Y e me/\Ev fun n=>zjc ms.rnd (zeW P (qy P hk (qQ P hk n)) ops ms.rnd (o::l) ms.env ms.h ms.dl)=some (me,ms'):=by
     intro v x sh' h' Y env' S1 hsh hh hv hset hrun hev1 hw
     obtain⟨me',h1,h2⟩:=zbE (hs.env.le S1.le) hv hset
     obtain⟨e,st2,Z,me2,ms2,h3,S2,hs2,he2,ev2⟩:=ihO pl id ops (i+1) l hpl k R ⟨env',sh'⟩ K r Y ⟨me',h',ms.dl,ms.rnd⟩ hrun ⟨h2,hsh,hh,hs.dk.step hr S1⟩ S1.hr (hg.le S1.le)
     refine⟨e,st2,Z,me2,ms2,h3,S1.trans S2,hs2,he2,(hev1.and ev2).mono fun m ⟨p,q⟩=>?_⟩
     rw[h1] at p
     simp only[zeW,hw,p,zge]
     exact q
    have off:want ops o ms.env=false->(match jH st.env o.dst (.tup []) with|some env=>zf0 P gl ct n pl ops (i+1) l ⟨env,st.h⟩ K|none=>none)=some r ->
      ∃ e st' Y me ms',K e st'=some r/\Stp X Y/\StR k Y st' ms'/\ExR Y e me/\Ev fun n=>zjc ms.rnd (zeW P (qy P hk (qQ P hk n)) ops ms.rnd (o::l) ms.env ms.h ms.dl)=some (me,ms'):=by
     intro hw h
     split at h
     ·rename_i env' hset
      obtain⟨me',h1,h2⟩:=zbE hs.env (show RV X (.tup []) (.tup []) from⟨[],rfl,rfl⟩) hset
      obtain⟨e,st2,Z,me2,ms2,h3,S2,hs2,he2,ev2⟩:=ihO pl id ops (i+1) l hpl k R ⟨env',st.h⟩ K r X ⟨me',ms.h,ms.dl,ms.rnd⟩ h ⟨h2,hs.sh,hs.h,hs.dk⟩ hr hg
      refine⟨e,st2,Z,me2,ms2,h3,S2,hs2,he2,ev2.mono fun m q=>?_⟩
      simp only[zeW,hw,h1]
      exact q
     ·cases h
    have go:want ops o ms.env=true->(match zbz o.op with
      |some x=>match sev gl st.env x with
       |some (.ifc t v)=>K (.panic (.ifc t v)) st
       |_=>none
      |none=>alts (fun r=>match r with
       |.val v h=>match jH st.env o.dst v with
        |some env=>zf0 P gl ct n pl ops (i+1) l ⟨env,h⟩ K
        |none=>none
       |.unit h=>match jH st.env o.dst (.tup []) with
        |some env=>zf0 P gl ct n pl ops (i+1) l ⟨env,h⟩ K
        |none=>none
       |.dfr f args cap=>none
       |.call (.inl f) args=>zaB P gl ct n (pl.at i f) f args st.h fun r=>match r with
        |.ret v h=>match jH st.env o.dst v with
         |some env=>zf0 P gl ct n pl ops (i+1) l ⟨env,h⟩ K
         |none=>none
        |.pan v h=>K (.panic v) ⟨st.env,h⟩
       |.call (.inr loc) args=>match st.h[loc]? with
        |some (.loop env id 0)=>match qE.at_ id with
         |some (ps,asg,body)=>match Nat.beq args.length ps.size with
          |true=>ke P gl ct n (pl.y i id).1 asg ⟨(ps.toList.zip args).foldl (fun e p=>e.set p.1 p.2) env,st.h.set loc .gone⟩ fun e st1=>match e with
           |.normal=>ke P gl ct n (pl.y i id).2 body st1 fun e st2=>match e with
            |.normal=>match jH st.env o.dst (.a (.bool true)) with
             |some env1=>zf0 P gl ct n pl ops (i+1) l ⟨env1,st2.h.set loc (.loop env id 0)⟩ K
             |none=>none
            |_=>none
           |_=>none
          |false=>none
         |none=>none
        |_=>none) (sop P gl (sev gl st.env) st.h o.op))=some r ->
      ∃ e st' Y me ms',K e st'=some r/\Stp X Y/\StR k Y st' ms'/\ExR Y e me/\Ev fun n=>zjc ms.rnd (zeW P (qy P hk (qQ P hk n)) ops ms.rnd (o::l) ms.env ms.h ms.dl)=some (me,ms'):=by
     intro hw h
     split at h
     ·rename_i x hx
      split at h
      ·rename_i t v hv
       obtain⟨y,h1,v',rfl,h2⟩:=hev _ _ hv
       rw[hs.h] at h1
       refine⟨_,st,X,.panic (.ifc t v'),⟨ms.env,ms.h,ms.dl,ms.rnd⟩,h,.refl hr,⟨hs.env,hs.sh,hs.h,hs.dk⟩,⟨v',rfl,h2⟩,Ev.all fun m=>?_⟩
       simp only[zeW,hw,zau,hx,h1,zjc]
      ·cases h
     ·rename_i hx
      obtain⟨q,hq,h⟩:=zd3 h
      rw[<- hs.sh] at hq
      obtain⟨rs,hm,hrs⟩:=zc8 hr hg hev hq
      rw[hs.h] at hm
      cases q with
      |val v sh'=>
       simp only at h
       split at h
       ·rename_i env' hset
        cases rs with
        |val x h'=>
         obtain⟨Y,S1,hsh,hh,hv⟩:=hrs
         exact next v x sh' h' Y env' S1 hsh hh hv hset h (Ev.all fun m=>by simp only[zau,hx,hm,zcc]) hw
        |_=>cases hrs
       ·cases h
      |unit sh'=>
       simp only at h
       split at h
       ·rename_i env' hset
        cases rs with
        |unit h'=>
         obtain⟨Y,S1,hsh,hh⟩:=hrs
         exact next (.tup []) (.tup []) sh' h' Y env' S1 hsh hh ⟨[],rfl,rfl⟩ hset h (Ev.all fun m=>by simp only[zau,hx,hm,zcc]) hw
        |_=>cases hrs
       ·cases h
      |dfr f a c=>cases h
      |call c args=>
       cases c with
       |inr loc=>
        cases rs with
        |call c' margs=>
         cases c' with
         |f _=>cases hrs
         |y m=>
          obtain⟨hat,hargs⟩:=hrs
          simp only at h
          split at h
          ·rename_i env lid hbk
           split at h
           ·rename_i ps asg body hcd
            split at h
            ·rename_i hsz
             have hsz:=zb hsz
             obtain⟨Y,sh',h'',env1,S1,hsh,hh,hv,hset,hrun,hev⟩:=zht (n:=n) (dst:=o.dst) (ihC _ _ (ji.y hcd hpl).1) (ihC _ _ (ji.y hcd hpl).2) hs hr hg hbk hcd hsz hat hargs (fun env1 sh=>zf0 P gl ct n pl ops (i+1) l ⟨env1,sh⟩ K) h
             exact next (.a (.bool true)) (.bool true) sh' h'' Y env1 S1 hsh hh hv hset hrun (hev.mono fun m p=>by simp only[zau,hx,hm,zcc,p]) hw
            ·cases h
           ·cases h
          ·cases h
        |_=>cases hrs
       |inl f=>
        cases rs with
        |call c' margs=>
         cases c' with
         |y _=>cases hrs
         |f f'=>
          obtain⟨rfl,hargs⟩:=hrs
          simp only at h
          rw[<- hs.sh] at h
          obtain⟨q,Y,mq,h1,S1,hcr,ev1⟩:=ihF (pl.at i f) f (fun fn b hf hb=>ji.at_ hf hb hpl) R args _ r X margs h hargs hr hg
          rw[hs.h] at ev1
          cases q with
          |ret v sh'=>
           cases mq with
           |pan=>cases hcr
           |ret x h'=>
            obtain⟨hsh,hh,hv⟩:=hcr
            simp only at h1
            split at h1
            ·rename_i env' hset
             exact next v x sh' h' Y env' S1 hsh hh hv hset h1 (ev1.mono fun m p=>by simp only[zau,hx,hm,zcc,p]) hw
            ·cases h1
          |pan v sh'=>
           cases mq with
           |ret=>cases hcr
           |pan x h'=>
            obtain⟨hsh,hh,hv⟩:=hcr
            refine⟨_,_,Y,.panic x,⟨ms.env,h',ms.dl,ms.rnd⟩,h1,S1,⟨hs.env.le S1.le,hsh,hh,hs.dk.step hr S1⟩,hv,ev1.mono fun m p=>?_⟩
            simp only[zeW,hw,zau,hx,hm,zcc,p,zjc]
        |_=>cases hrs
    simp only[zf0] at h
    split at h
    ·rename_i hgd
     exact go (by simp only[want,hgd]) h
    ·rename_i j w hgd
     split at h
     ·rename_i t b hgv
      obtain⟨h1,h2⟩:=zij hs.env hgv
      have hst:∀ (e:List SV),e=st.env->(⟨e,st.h⟩:SS)=st:=fun e he=>by rw[he]
      cases b with
      |true=>
       simp only[cond_true,h2] at h
       cases w with
       |true=>exact go (by simp only[want,hgd,h1];rfl) h
       |false=>exact off (by simp only[want,hgd,h1];rfl) h
      |false=>
       simp only[cond_false,h2] at h
       cases w with
       |true=>exact off (by simp only[want,hgd,h1];rfl) h
       |false=>exact go (by simp only[want,hgd,h1];rfl) h
     ·split at h
      ·rename_i hsk
       exact off (by simp only[want,hgd,zgv hs.env hsk];rfl) h
      ·cases h
  ·
   intro pl f hpl R args κ r X margs h hargs hr hg
   simp only[zaB] at h
   split at h
   ·rename_i g hcf
    exact hct.calls f g hcf R args κ r X margs h hargs hr hg
   ·rename_i hcf
    split at h
    ·rename_i fn hf
     split at h
     ·rename_i c hb
      split at h
      ·rename_i hle
       have hle:=Nat.le_of_ble_eq_true hle
       have hhk:hk f=none:=by
        cases hq:hk f with
        |none=>rfl
        |some g=>have:=hct.zqU f g hq hcf;rw[hf] at this;simp [hb] at this
       have hl:=hargs.length
       have henv:RVs X (args++List.replicate (fn.ntmps-args.length) (.tup [])) (Arr.of (margs++List.replicate (fn.ntmps-margs.length) AV.undef)).toL:=by
        rw[Arr.zlp,hl]
        refine hargs.append ?_
        generalize fn.ntmps-args.length=k
        induction k with
        |zero=>rfl
        |succ k ih=>exact⟨_,_,rfl,⟨[],rfl,rfl⟩,ih⟩
       obtain⟨e,st1,Y,me,ms1,h1,S1,hs1,he1,ev1⟩:=ihC pl c (hpl fn c hf hb) (X.h.length,none) R _ _ r X ⟨Arr.of (margs++List.replicate (fn.ntmps-margs.length) AV.undef),X.h,[],none⟩ h ⟨henv,rfl,rfl,Dk.none⟩ hr hg
       have hm:∀ m,qy P hk (qQ P hk m) (.f f) margs X.h=match qQ P hk m c ⟨Arr.of (margs++List.replicate (fn.ntmps-margs.length) AV.undef),X.h,[],none⟩ with
         |some (.normal,st)=>zix P fn st.env (mleave (w7 P (qQ P hk m)) st.dl st.h .no)
         |some (.ret,st)=>zix P fn st.env (mleave (w7 P (qQ P hk m)) st.dl st.h .no)
         |some (.panic v,st)=>zix P fn st.env (mleave (w7 P (qQ P hk m)) st.dl st.h (.up v))
         |_=>none:=by
        intro m
        simp only[qy,hhk,zcb,hf,mstart,hb]
        rw[if_pos (by rw[hl];exact hle)]
        cases qQ P hk m c ⟨Arr.of (margs++List.replicate (fn.ntmps-margs.length) AV.undef),X.h,[],none⟩ with
        |none=>rfl
        |some p=>obtain⟨e0,st0⟩:=p;cases e0<;>rfl
       have fin:∀ (me0:Ex),(me0=.normal\/me0=.ret)->me=me0->(match zoN P gl st1.env st1.h fn.results.toList with|some vs=>κ (.ret (zop vs) st1.h)|none=>none)=some r ->
         ∃ q Y mq,κ q=some r/\Stp X Y/\CRR Y q mq/\Ev fun n=>qy P hk (qQ P hk n) (.f f) margs X.h=some mq:=by
        intro me0 hme0 hme h1
        subst hme
        split at h1
        ·rename_i vs hvs
         obtain⟨h',hlv,S2,hle2⟩:=zao hr.Φlt (fun d hd=>let⟨m,q1,q2,q3,q4,_⟩:=hs1.dk.dl d hd;⟨m,q1,q2,q3,q4⟩) hs1.dk.nd S1
         rw[<- hs1.sh] at hvs
         obtain⟨xs,h2,h3⟩:=ziZ (X:=⟨h',Y.Φ,Y.σ,Y.sh⟩) S2.hr (hs1.env.le hle2) ((hg.le S1.le).le hle2) hvs
         refine⟨.ret (zop vs) st1.h,⟨h',Y.Φ,Y.σ,Y.sh⟩,.ret (zmi xs) h',h1,S2,⟨hs1.sh,rfl,ziG h3⟩,ev1.mono fun m p=>?_⟩
         have e0:=hlv (w7 P (qQ P hk m)) [] .no
         rw[List.append_nil,hs1.h] at e0
         rw[hm,p]
         rcases hme0 with rfl|rfl<;>simp only[e0,mleave,zix,h2]
        ·cases h1
       cases e with
       |normal=>
        cases me<;>first|cases he1|skip
        exact fin .normal (.inl rfl) rfl h1
       |ret=>
        cases me<;>first|cases he1|skip
        exact fin .ret (.inr rfl) rfl h1
       |exit id=>cases h1
       |panic v=>
        cases me<;>first|cases he1|skip
        rename_i x
        obtain⟨h',hlv,S2,hle2⟩:=zao hr.Φlt (fun d hd=>let⟨m,q1,q2,q3,q4,_⟩:=hs1.dk.dl d hd;⟨m,q1,q2,q3,q4⟩) hs1.dk.nd S1
        refine⟨.pan v st1.h,⟨h',Y.Φ,Y.σ,Y.sh⟩,.pan x h',h1,S2,⟨hs1.sh,rfl,he1.le hle2⟩,ev1.mono fun m p=>?_⟩
        have e0:=hlv (w7 P (qQ P hk m)) [] (.up x)
        rw[List.append_nil,hs1.h] at e0
        rw[hm,p]
        simp only[e0,mleave,zix]
      ·cases h
     ·cases h
    ·cases h
end
end Go.Sx
namespace Go.Sx
open Go Go.Gx Go.Mx
variable [qE]
inductive Lf where
 |b (x:Bool)|i (x:Int)|c (x:UInt8)|s (x:List UInt8)|n (x:Nat)
 |l (u:U) (x:List (El u))|e (u:U) (x:El u)
inductive PV where
 |drop|bool|int (k:IntKind)|u8|str|cst (v:AV)
 |isl (u:U)|ul (u:U)|zcP (u:U) (fo:Nat)|ptr (loc off lim:Nat)|zdD (g off lim:Nat)|gs (loc n:Nat)|zh7 (loc n len:Nat)|sl (loc n:Nat) (c:Bool)|zea (loc n fo:Nat)|map (loc:Nat)
 |fn (f:FuncId) (a b:List PV)|ifc (t:TypeId) (p:PV)|agg (l:List PV)|tup (l:List PV)|yld (loc:Nat)
 deriving Inhabited
inductive PB where
 |cells (l:List PV) (md:Nat) (mk:Option TypeId:=none)|seq (u:U) (n md:Nat) (fx:Bool)|map (ks vs:List PV) (md:Nat)|kv (u v:U) (md:Nat)|loop (env:List PV) (id md:Nat)|gone
 deriving Inhabited
def zn5(ph:List PB)(h:SH)(loc n k:Nat):Bool:=match ph[loc]?,h[loc]? with
 |some (.seq _ n' _ _),some (.seq _ _ m _)=>Nat.beq n' n&&Nat.beq m k
 |_,_=>false
mutual
def mV(ph:List PB)(h:SH):PV->SV->Option (List Lf)
 |.drop,_=>some []
 |.bool,.a (.bool b)=>some [.b b]
 |.int k,.a (.int k' n)=>if k=k' then some [.i n] else none
 |.u8,.u8 b=>some [.c b]
 |.str,.a (.str l)=>some [.s l]
 |.cst v,.a w=>match AV.beq v w with
  |true=>some []
  |false=>none
 |.isl u,.isl u' l=>match qX u' u l with
  |some l=>some [.l u l]
  |none=>none
 |.ul u,.ul u' l=>match qX u' u l with
  |some l=>some [.l u l]
  |none=>none
 |.zcP u fo,.zcP u' x fo'=>if q:u'=u then(match Nat.beq fo fo' with|true=>some [.e u (q ▸ x)]|false=>none) else none
 |.ptr loc off lim,.ptr loc' off' lim'=>match Nat.beq loc loc'&&Nat.beq off off'&&Nat.beq lim lim'&&Nat.blt loc ph.length with
  |true=>some []
  |false=>none
 |.zdD g off lim,.zdD g' off' lim'=>match Nat.beq g g'&&Nat.beq off off'&&Nat.beq lim lim' with
  |true=>some []
  |false=>none
 |.gs loc n,.gs loc' k=>match Nat.beq loc loc'&&zn5 ph h loc n k with
  |true=>some []
  |false=>none
 |.zh7 loc n len,.zh7 loc' k len'=>match Nat.beq loc loc'&&zn5 ph h loc n k&&Nat.beq len len' with
  |true=>some []
  |false=>none
 |.sl loc n c,.sl loc' k off len c'=>match Nat.beq loc loc'&&zn5 ph h loc n k&&c==c' with
  |true=>some [.n off,.n len]
  |false=>none
 |.sl loc n c,.gs loc' k=>match Nat.beq loc loc'&&zn5 ph h loc n k&&c==false,h[loc]? with
  |true,some (.seq _ l _ _)=>some [.n 0,.n l.length]
  |_,_=>none
 |.zea loc n fo,.zea loc' k i fo'=>match Nat.beq loc loc'&&zn5 ph h loc n k&&Nat.beq fo fo' with
  |true=>some [.n i]
  |false=>none
 |.map loc,.map loc'=>match Nat.beq loc loc'&&Nat.blt loc ph.length with
  |true=>some []
  |false=>none
 |.yld loc,.yld loc'=>match Nat.beq loc loc'&&Nat.blt loc ph.length with
  |true=>some []
  |false=>none
 |.fn f a b,.fn f' a' b'=>match Nat.beq f f',mVs ph h a a',mVs ph h b b' with
  |true,some x,some y=>some (x++y)
  |_,_,_=>none
 |.ifc t p,.ifc t' v=>match Nat.beq t t' with
  |true=>mV ph h p v
  |false=>none
 |.agg l,.agg l'=>mVs ph h l l'
 |.tup l,.tup l'=>mVs ph h l l'
 |_,_=>none
def mVs(ph:List PB)(h:SH):List PV->List SV->Option (List Lf)
 | [],[]=>some []
 |p::l,v::r=>match mV ph h p v,mVs ph h l r with
  |some x,some y=>some (x++y)
  |_,_=>none
 |_,_=>none
end
mutual
def iV:PV->List Lf->SV×List Lf
 |.bool,.b x::r=>(.a (.bool x),r)
 |.int k,.i x::r=>(.a (.int k x),r)
 |.u8,.c x::r=>(.u8 x,r)
 |.str,.s x::r=>(.a (.str x),r)
 |.cst v,r=>(.a v,r)
 |.isl u,.l u' x::r=>(.isl u' x,r)
 |.ul u,.l u' x::r=>(.ul u' x,r)
 |.zcP u fo,.e u' x::r=>(.zcP u' x fo,r)
 |.ptr loc off lim,r=>(.ptr loc off lim,r)
 |.zdD loc off lim,r=>(.zdD loc off lim,r)
 |.gs loc n,r=>(.gs loc n,r)
 |.zh7 loc n len,r=>(.zh7 loc n len,r)
 |.sl loc n c,.n off::.n len::r=>(.sl loc n off len c,r)
 |.zea loc n fo,.n i::r=>(.zea loc n i fo,r)
 |.map loc,r=>(.map loc,r)
 |.yld loc,r=>(.yld loc,r)
 |.fn f a b,r=>(.fn f (iVs a r).1 (iVs b (iVs a r).2).1,(iVs b (iVs a r).2).2)
 |.ifc t p,r=>(.ifc t (iV p r).1,(iV p r).2)
 |.agg l,r=>(.agg (iVs l r).1,(iVs l r).2)
 |.tup l,r=>(.tup (iVs l r).1,(iVs l r).2)
 |_,r=>(.top,r)
def iVs:List PV->List Lf->List SV×List Lf
 | [],r=>([],r)
 |p::l,r=>((iV p r).1::(iVs l (iV p r).2).1,(iVs l (iV p r).2).2)
end
structure Mt(ph:List PB)(X Z:Gst):Prop where
 h:Z.h=X.h
 Φ:Z.Φ=X.Φ
 at_:∀ loc m,X.at loc m->loc<ph.length->Z.at loc m
 row:∀ (loc:Nat) (u:U) (n md:Nat) (fx:Bool) (u':U) (l:List (El u')) (k md':Nat),ph[loc]?=some (.seq u n md fx)->X.sh[loc]?=some (.seq u' l k md')->Z.sh[loc]?=some (.seq u' l n md')/\Z.σ[loc]?=X.σ[loc]?
theorem Mt.cur{ph:List PB}{X Z:Gst}(hM:Mt ph X Z){loc n k:Nat}(hr:zn5 ph X.sh loc n k=true){Q:(u:U)->Nat->Option (Nat×Nat)->Prop}(q:X.cur loc k Q):Z.cur loc n Q:=by
 unfold zn5 at hr
 split at hr
 ·rename_i u n' md fx u' l m md' hp hb
  simp only[Bool.and_eq_true] at hr
  have h1:=zb hr.1
  have h2:=zb hr.2
  subst h1;subst h2
  obtain⟨o,ho,hc⟩:=q
  obtain⟨h3,h4⟩:=hM.row loc u n' md fx u' l m md' hp hb
  refine⟨o,h4.trans ho,fun u2 l2 k2 md2 hb2=>?_⟩
  rw[h3] at hb2;cases hb2
  exact⟨Nat.le_refl _,fun _=>(hc _ _ _ _ hb).2 rfl⟩
 ·cases hr
mutual
theorem zhO{ph:List PB}{X Z:Gst}(hM:Mt ph X Z):∀ (p:PV) {v:SV} {ls:List Lf} {x:AV},mV ph X.sh p v=some ls->RV X v x->∀ r,∃ w,iV p (ls++r)=(w,r)/\RV Z w x
 |.drop,v,ls,x,h,hv,r=>by simp [mV] at h;subst h;exact⟨.top,rfl,trivial⟩
 |.bool,v,ls,x,h,hv,r=>by
  cases v<;>first|(simp [mV] at h;done)|skip
  rename_i w;cases w<;>first|(simp [mV] at h;done)|skip
  simp [mV] at h;subst h;exact⟨_,rfl,hv⟩
 |.int k,v,ls,x,h,hv,r=>by
  cases v<;>first|(simp [mV] at h;done)|skip
  rename_i w;cases w<;>first|(simp [mV] at h;done)|skip
  simp [mV] at h;obtain⟨rfl,rfl⟩:=h;exact⟨_,rfl,hv⟩
 |.u8,v,ls,x,h,hv,r=>by
  cases v<;>first|(simp [mV] at h;done)|skip
  simp [mV] at h;subst h;exact⟨_,rfl,hv⟩
 |.str,v,ls,x,h,hv,r=>by
  cases v<;>first|(simp [mV] at h;done)|skip
  rename_i w;cases w<;>first|(simp [mV] at h;done)|skip
  simp [mV] at h;subst h;exact⟨_,rfl,hv⟩
 |.cst c,v,ls,x,h,hv,r=>by
  cases v<;>first|(simp [mV] at h;done)|skip
  simp only[mV] at h
  split at h
  ·rename_i hb;cases h;exact⟨_,rfl,by rw[AV.beq_eq _ _ hb];exact hv⟩
  ·cases h
 |.isl u,v,ls,x,h,hv,r=>by
  cases v<;>first|(simp [mV] at h;done)|skip
  simp only[mV] at h
  split at h
  ·rename_i l hc
   obtain⟨e1,e2⟩:=zq hc
   subst e1;cases e2;cases h
   exact⟨_,rfl,by show RSl Z.h Z.Φ _ _ _ _;rw[hM.h,hM.Φ];exact hv⟩
  ·cases h
 |.ul u,v,ls,x,h,hv,r=>by
  cases v<;>first|(simp [mV] at h;done)|skip
  simp only[mV] at h
  split at h
  ·rename_i l hc
   obtain⟨e1,e2⟩:=zq hc
   subst e1;cases e2;cases h
   exact⟨_,rfl,by show ∃ c,RSl Z.h Z.Φ c _ _ _;rw[hM.h,hM.Φ];exact hv⟩
  ·cases h
 |.zcP u fo,v,ls,x,h,hv,r=>by
  cases v<;>first|(simp [mV] at h;done)|skip
  simp only[mV] at h
  split at h
  ·rename_i hq
   subst hq
   split at h
   ·rename_i hfo
    have hfo:=zb hfo
    subst hfo
    cases h
    obtain⟨m,off,ver,lim,cs,h1,h2,h3,h4,h5,h6⟩:=hv
    exact⟨_,rfl,m,off,ver,lim,cs,h1,by rw[hM.Φ];exact h2,h3,by rw[hM.h];exact h4,h5,by rw[hM.h,hM.Φ];exact h6⟩
   ·cases h
  ·cases h
 |.ptr loc off lim,v,ls,x,h,hv,r=>by
  cases v<;>first|(simp [mV] at h;done)|skip
  simp only[mV] at h
  split at h
  ·rename_i hb
   simp only[Bool.and_eq_true] at hb
   obtain⟨⟨⟨h1,h2⟩,h3⟩,h4⟩:=hb
   have h1:=zb h1;have h2:=zb h2;have h3:=zb h3
   subst h1;subst h2;subst h3;cases h
   obtain⟨m,q1,q2⟩:=hv
   exact⟨_,rfl,m,hM.at_ _ _ q1 (qg h4),q2⟩
  ·cases h
 |.zdD g off lim,v,ls,x,h,hv,r=>by
  cases v<;>first|(simp [mV] at h;done)|skip
  simp only[mV] at h
  split at h
  ·rename_i hb
   simp only[Bool.and_eq_true] at hb
   obtain⟨⟨h1,h2⟩,h3⟩:=hb
   have h1:=zb h1;have h2:=zb h2;have h3:=zb h3
   subst h1;subst h2;subst h3;cases h
   exact⟨_,rfl,hv⟩
  ·cases h
 |.zh7 loc n len,v,ls,x,h,hv,r=>by
  cases v<;>first|(simp [mV] at h;done)|skip
  simp only[mV] at h
  split at h
  ·rename_i hb
   simp only[Bool.and_eq_true] at hb
   obtain⟨⟨h1,h2⟩,h3⟩:=hb
   have h1:=zb h1;have h3:=zb h3
   subst h1;subst h3;cases h
   exact⟨_,rfl,hv.1,hM.cur h2 hv.2⟩
  ·cases h
 |.gs loc n,v,ls,x,h,hv,r=>by
  cases v<;>first|(simp [mV] at h;done)|skip
  simp only[mV] at h
  split at h
  ·rename_i hb
   simp only[Bool.and_eq_true] at hb
   have h1:=zb hb.1
   subst h1;cases h
   exact⟨_,rfl,hv.1,hM.cur hb.2 hv.2⟩
  ·cases h
 |.sl loc n c,v,ls,x,h,hv,r=>by
  cases v<;>first|(simp [mV] at h;done)|skip
  ·simp only[mV] at h
   split at h
   ·rename_i u l m md hb hsh
    simp only[Bool.and_eq_true,beq_iff_eq] at hb
    obtain⟨⟨h1,h2⟩,rfl⟩:=hb
    have h1:=zb h1
    subst h1;cases h
    refine⟨_,rfl,hv.1,hM.cur h2 ?_⟩
    obtain⟨o,ho,hc⟩:=hv.2
    refine⟨o,ho,fun u' l' k' md' hb'=>⟨(hc u' l' k' md' hb').1,fun e=>?_⟩⟩
    have hq:=(hc u' l' k' md' hb').2 e
    rw[hsh] at hb';cases hb'
    refine⟨by omega,?_⟩
    cases o with
    |none=>exact hq.1
    |some p=>rw[Nat.zero_mul];exact hq
   ·cases h
  simp only[mV] at h
  split at h
  ·rename_i hb
   simp only[Bool.and_eq_true,beq_iff_eq] at hb
   obtain⟨⟨h1,h2⟩,rfl⟩:=hb
   have h1:=zb h1
   subst h1;cases h
   exact⟨_,rfl,hv.1,hM.cur h2 hv.2⟩
  ·cases h
 |.zea loc n fo,v,ls,x,h,hv,r=>by
  cases v<;>first|(simp [mV] at h;done)|skip
  simp only[mV] at h
  split at h
  ·rename_i hb
   simp only[Bool.and_eq_true] at hb
   obtain⟨⟨h1,h2⟩,h3⟩:=hb
   have h1:=zb h1;have h3:=zb h3
   subst h1;subst h3;cases h
   exact⟨_,rfl,hv.1,hM.cur h2 hv.2⟩
  ·cases h
 |.map loc,v,ls,x,h,hv,r=>by
  cases v<;>first|(simp [mV] at h;done)|skip
  simp only[mV] at h
  split at h
  ·rename_i hb
   simp only[Bool.and_eq_true] at hb
   have h1:=zb hb.1
   subst h1;cases h
   obtain⟨m,q1,q2⟩:=hv
   exact⟨_,rfl,m,hM.at_ _ _ q1 (qg hb.2),q2⟩
  ·cases h
 |.yld loc,v,ls,x,h,hv,r=>by
  cases v<;>first|(simp [mV] at h;done)|skip
  simp only[mV] at h
  split at h
  ·rename_i hb
   simp only[Bool.and_eq_true] at hb
   have h1:=zb hb.1
   subst h1;cases h
   obtain⟨m,q1,q2⟩:=hv
   exact⟨_,rfl,m,hM.at_ _ _ q1 (qg hb.2),q2⟩
  ·cases h
 |.fn f a b,v,ls,x,h,hv,r=>by
  cases v<;>first|(simp [mV] at h;done)|skip
  simp only[mV] at h
  split at h
  ·rename_i l1 l2 hf h1 h2
   have hf:=zb hf
   subst hf;cases h
   obtain⟨a',b',rfl,q1,q2⟩:=hv
   obtain⟨wa,e1,q3⟩:=qG hM a h1 q1 (l2++r)
   obtain⟨wb,e2,q4⟩:=qG hM b h2 q2 r
   refine⟨.fn f wa wb,?_,a',b',rfl,q3,q4⟩
   simp only[iV,List.append_assoc,e1,e2]
  ·cases h
 |.ifc t p,v,ls,x,h,hv,r=>by
  cases v<;>first|(simp [mV] at h;done)|skip
  simp only[mV] at h
  split at h
  ·rename_i ht
   have ht:=zb ht
   subst ht
   obtain⟨y,rfl,q1⟩:=hv
   obtain⟨w,e1,q2⟩:=zhO hM p h q1 r
   exact⟨.ifc t w,by simp only[iV,e1],y,rfl,q2⟩
  ·cases h
 |.agg l,v,ls,x,h,hv,r=>by
  cases v<;>first|(simp [mV] at h;done)|skip
  simp only[mV] at h
  obtain⟨y,rfl,q1⟩:=hv
  obtain⟨w,e1,q2⟩:=qG hM l h q1 r
  exact⟨.agg w,by simp only[iV,e1],y,rfl,q2⟩
 |.tup l,v,ls,x,h,hv,r=>by
  cases v<;>first|(simp [mV] at h;done)|skip
  simp only[mV] at h
  obtain⟨y,rfl,q1⟩:=hv
  obtain⟨w,e1,q2⟩:=qG hM l h q1 r
  exact⟨.tup w,by simp only[iV,e1],y,rfl,q2⟩
theorem qG{ph:List PB}{X Z:Gst}(hM:Mt ph X Z):∀ (p:List PV) {v:List SV} {ls:List Lf} {x:List AV},mVs ph X.sh p v=some ls->RVs X v x->∀ r,∃ w,iVs p (ls++r)=(w,r)/\RVs Z w x
 | [],v,ls,x,h,hv,r=>by
  cases v with
  |nil=>simp [mVs] at h;subst h;exact⟨[],rfl,hv⟩
  |cons=>simp [mVs] at h
 |p::l,v,ls,x,h,hv,r=>by
  cases v with
  |nil=>simp [mVs] at h
  |cons v vs=>
   simp only[mVs] at h
   split at h
   ·rename_i l1 l2 h1 h2
    cases h
    obtain⟨y,ys,rfl,q1,q2⟩:=hv
    obtain⟨wa,e1,q3⟩:=zhO hM p h1 q1 (l2++r)
    obtain⟨wb,e2,q4⟩:=qG hM l h2 q2 r
    refine⟨wa::wb,?_,y,ys,rfl,q3,q4⟩
    simp only[iVs,List.append_assoc,e1,e2]
   ·cases h
end
end Go.Sx
namespace Go.Sx
open Go Go.Gx Go.Mx
variable [qE]
mutual
theorem zpr{ph:List PB}{h0:SH}:∀ (p:PV) {v:SV} {ls:List Lf},mV ph h0 p v=some ls->∀ r,∃ w,iV p (ls++r)=(w,r)
 |.drop,v,ls,h,r=>by simp [mV] at h;subst h;exact⟨_,rfl⟩
 |.bool,v,ls,h,r=>by
  cases v<;>first|(simp [mV] at h;done)|skip
  rename_i w;cases w<;>first|(simp [mV] at h;done)|skip
  simp [mV] at h;subst h;exact⟨_,rfl⟩
 |.int k,v,ls,h,r=>by
  cases v<;>first|(simp [mV] at h;done)|skip
  rename_i w;cases w<;>first|(simp [mV] at h;done)|skip
  simp [mV] at h;obtain⟨rfl,rfl⟩:=h;exact⟨_,rfl⟩
 |.u8,v,ls,h,r=>by
  cases v<;>first|(simp [mV] at h;done)|skip
  simp [mV] at h;subst h;exact⟨_,rfl⟩
 |.str,v,ls,h,r=>by
  cases v<;>first|(simp [mV] at h;done)|skip
  rename_i w;cases w<;>first|(simp [mV] at h;done)|skip
  simp [mV] at h;subst h;exact⟨_,rfl⟩
 |.cst c,v,ls,h,r=>by
  cases v<;>first|(simp [mV] at h;done)|skip
  simp only[mV] at h
  split at h
  ·cases h;exact⟨_,rfl⟩
  ·cases h
 |.isl u,v,ls,h,r=>by
  cases v<;>first|(simp [mV] at h;done)|skip
  simp only[mV] at h
  split at h
  ·cases h;exact⟨_,rfl⟩
  ·cases h
 |.ul u,v,ls,h,r=>by
  cases v<;>first|(simp [mV] at h;done)|skip
  simp only[mV] at h
  split at h
  ·cases h;exact⟨_,rfl⟩
  ·cases h
 |.ptr loc off lim,v,ls,h,r=>by
  cases v<;>first|(simp [mV] at h;done)|skip
  simp only[mV] at h
  split at h
  ·cases h;exact⟨_,rfl⟩
  ·cases h
 |.zdD g off lim,v,ls,h,r=>by
  cases v<;>first|(simp [mV] at h;done)|skip
  simp only[mV] at h
  split at h
  ·cases h;exact⟨_,rfl⟩
  ·cases h
 |.zh7 loc n len,v,ls,h,r=>by
  cases v<;>first|(simp [mV] at h;done)|skip
  simp only[mV] at h
  split at h
  ·cases h;exact⟨_,rfl⟩
  ·cases h
 |.gs loc n,v,ls,h,r=>by
  cases v<;>first|(simp [mV] at h;done)|skip
  simp only[mV] at h
  split at h
  ·cases h;exact⟨_,rfl⟩
  ·cases h
 |.sl loc n c,v,ls,h,r=>by
  cases v<;>first|(simp [mV] at h;done)|skip
  ·simp only[mV] at h
   split at h
   ·cases h;exact⟨_,rfl⟩
   ·cases h
  simp only[mV] at h
  split at h
  ·cases h;exact⟨_,rfl⟩
  ·cases h
 |.zea loc n fo,v,ls,h,r=>by
  cases v<;>first|(simp [mV] at h;done)|skip
  simp only[mV] at h
  split at h
  ·cases h;exact⟨_,rfl⟩
  ·cases h
 |.map loc,v,ls,h,r=>by
  cases v<;>first|(simp [mV] at h;done)|skip
  simp only[mV] at h
  split at h
  ·cases h;exact⟨_,rfl⟩
  ·cases h
 |.yld loc,v,ls,h,r=>by
  cases v<;>first|(simp [mV] at h;done)|skip
  simp only[mV] at h
  split at h
  ·cases h;exact⟨_,rfl⟩
  ·cases h
 |.zcP u fo,v,ls,h,r=>by
  cases v<;>first|(simp [mV] at h;done)|skip
  simp only[mV] at h
  split at h
  ·split at h
   ·cases h;exact⟨_,rfl⟩
   ·cases h
  ·cases h
 |.fn f a b,v,ls,h,r=>by
  cases v<;>first|(simp [mV] at h;done)|skip
  simp only[mV] at h
  split at h
  ·rename_i l1 l2 hf h1 h2
   cases h
   obtain⟨wa,e1⟩:=xT a h1 (l2++r)
   obtain⟨wb,e2⟩:=xT b h2 r
   exact⟨.fn f wa wb,by simp only[iV,List.append_assoc,e1,e2]⟩
  ·cases h
 |.ifc t p,v,ls,h,r=>by
  cases v<;>first|(simp [mV] at h;done)|skip
  simp only[mV] at h
  split at h
  ·obtain⟨w,e1⟩:=zpr p h r
   exact⟨.ifc t w,by simp only[iV,e1]⟩
  ·cases h
 |.agg l,v,ls,h,r=>by
  cases v<;>first|(simp [mV] at h;done)|skip
  simp only[mV] at h
  obtain⟨w,e1⟩:=xT l h r
  exact⟨.agg w,by simp only[iV,e1]⟩
 |.tup l,v,ls,h,r=>by
  cases v<;>first|(simp [mV] at h;done)|skip
  simp only[mV] at h
  obtain⟨w,e1⟩:=xT l h r
  exact⟨.tup w,by simp only[iV,e1]⟩
theorem xT{ph:List PB}{h0:SH}:∀ (p:List PV) {v:List SV} {ls:List Lf},mVs ph h0 p v=some ls->∀ r,∃ w,iVs p (ls++r)=(w,r)
 | [],v,ls,h,r=>by
  cases v with
  |nil=>simp [mVs] at h;subst h;exact⟨[],rfl⟩
  |cons=>simp [mVs] at h
 |p::l,v,ls,h,r=>by
  cases v with
  |nil=>simp [mVs] at h
  |cons v vs=>
   simp only[mVs] at h
   split at h
   ·rename_i l1 l2 h1 h2
    cases h
    obtain⟨wa,e1⟩:=zpr p h1 (l2++r)
    obtain⟨wb,e2⟩:=xT l h2 r
    exact⟨wa::wb,by simp only[iVs,List.append_assoc,e1,e2]⟩
   ·cases h
end
theorem zjB{X Z:Gst}(hh:Z.h=X.h)(hΦ:Z.Φ=X.Φ):∀ (u:U) (x:El u) {ys:List AV},RVs X (enc u x) ys->RVs Z (enc u x) ys
 |.bool,_,_,q=>q
 |.int _,_,_,q=>q
 |.u8,_,_,q=>q
 |.str,_,_,q=>q
 |.slc u,l,_,⟨y,ys,e,q1,q2⟩=>⟨y,ys,e,by show ∃ c,RSl Z.h Z.Φ c u l y;rw[hh,hΦ];exact q1,q2⟩
 |.sl u,l,_,⟨y,ys,e,q1,q2⟩=>⟨y,ys,e,by show RSl Z.h Z.Φ false u l y;rw[hh,hΦ];exact q1,q2⟩
 |.pair u v,x,_,q=>by
  rename_i ys
  have h1:=q.take (enc u x.1).length
  have h2:=q.drop (enc u x.1).length
  rw[show enc (.pair u v) x=enc u x.1++enc v x.2 from rfl] at h1 h2
  rw[List.take_left] at h1
  rw[List.drop_left] at h2
  have:=(zjB hh hΦ u x.1 h1).append (zjB hh hΦ v x.2 h2)
  rwa [List.take_append_drop] at this
 |.unit,_,_,q=>q
theorem zoT{X Z:Gst}(hh:Z.h=X.h)(hΦ:Z.Φ=X.Φ):∀ (u:U) (x:El u) {y:AV},RV X (zf8 u x) y->RV Z (zf8 u x) y
 |.bool,_,_,q=>q
 |.int _,_,_,q=>q
 |.u8,_,_,q=>q
 |.str,_,_,q=>q
 |.slc u,l,y,q=>by show ∃ c,RSl Z.h Z.Φ c u l y;rw[hh,hΦ];exact q
 |.sl u,l,y,q=>by show RSl Z.h Z.Φ false u l y;rw[hh,hΦ];exact q
 |.pair u v,x,_,⟨ys,e,q⟩=>⟨ys,e,zjB hh hΦ (.pair u v) x q⟩
 |.unit,_,_,q=>q
theorem znZ{α:Type}{X Z:Gst}(hh:Z.h=X.h)(hΦ:Z.Φ=X.Φ)(u:U)(f:α->El u):∀ (l:List α) {ys:List AV},RVs X (l.map fun p=>zf8 u (f p)) ys->RVs Z (l.map fun p=>zf8 u (f p)) ys
 | [],_,q=>q
 |p::l,_,⟨y,ys,e,q1,q2⟩=>⟨y,ys,e,zoT hh hΦ u _ q1,znZ hh hΦ u f l q2⟩
def mB(ph:List PB)(h:SH):PB->SB->Option (List Lf)
 |.cells l md mk,.cells l' md' mk'=>match Nat.beq md md'&&mkB mk mk' with
  |true=>mVs ph h l l'
  |false=>none
 |.loop pe id md,.loop e id' md'=>match Nat.beq md md'&&Nat.beq id id' with
  |true=>mVs ph h pe e
  |false=>none
 |.seq u n md fx,.seq u' l k md'=>match Nat.beq md md'&&((!fx||Nat.beq k n)&&mkB (mkS n) (mkS k)),qX u' u l with
  |true,some l=>some [.l u l]
  |_,_=>none
 |.map ks vs md,.map ks' vs' md'=>match Nat.beq md md',mVs ph h ks ks',mVs ph h vs vs' with
  |true,some a,some b=>some (a++b)
  |_,_,_=>none
 |.kv u v md,b=>match b with
  |.kv u' v' l md'=>match Nat.beq md md',qX (.pair u' v') (.pair u v) l with
   |true,some l=>some [.l (.pair u v) l]
   |_,_=>none
  |.map ks vs md'=>match Nat.beq md md',ks,vs with
   |true,[],[]=>some [.l (.pair u v) []]
   |_,_,_=>none
  |_=>none
 |.gone,_=>some []
 |_,_=>none
def mBs(ph:List PB)(h:SH):List PB->List SB->Option (List Lf)
 | [],_=>some []
 |p::l,b::r=>match mB ph h p b,mBs ph h l r with
  |some x,some y=>some (x++y)
  |_,_=>none
 |_,_=>none
def iB:PB->List Lf->SB×List Lf
 |.cells l md mk,r=>(.cells (iVs l r).1 md mk,(iVs l r).2)
 |.seq u n md fx,.l u' x::r=>(.seq u' x n md,r)
 |.map ks vs md,r=>(.map (iVs ks r).1 (iVs vs (iVs ks r).2).1 md,(iVs vs (iVs ks r).2).2)
 |.kv u v md,.l (.pair u' v') x::r=>(.kv u' v' x md,r)
 |.loop pe id md,r=>(.loop (iVs pe r).1 id md,(iVs pe r).2)
 |_,r=>(.gone,r)
def iBs:List PB->List Lf->List SB×List Lf
 | [],r=>([],r)
 |p::l,r=>((iB p r).1::(iBs l (iB p r).2).1,(iBs l (iB p r).2).2)
structure PS where
 env:List PV
 h:List PB
def mS(p:PS)(st:SS):Option (List Lf):=match mVs p.h st.h p.env st.env,mBs p.h st.h p.h st.h with
 |some x,some y=>some (x++y)
 |_,_=>none
def iS(p:PS)(ls:List Lf):SS:=⟨(iVs p.env ls).1,(iBs p.h (iVs p.env ls).2).1⟩
def Lk(pb:PB)(b b':SB):Prop:=(pb=.gone/\b'=.gone) \/
 (∃ l l' md mk mk',mkB mk mk'=true/\b=.cells l md mk'/\b'=.cells l' md mk/\∃ pl,pb=.cells pl md mk)\/(∃ u l k n md,b=.seq u l k md/\b'=.seq u l n md/\∃ fx,pb=.seq u n md fx/\(fx=true->k=n)/\mkB (mkS n) (mkS k)=true)\/(∃ ks vs ks' vs' md,b=.map ks vs md/\b'=.map ks' vs' md/\∃ pk pv,pb=.map pk pv md)\/(∃ u v l md,((∃ l',b=.kv u v l' md)\/b=.map [] [] md)/\b'=.kv u v l md/\pb=.kv u v md)\/(∃ e e' id md,b=.loop e id md/\b'=.loop e' id md/\∃ pe,pb=.loop pe id md)
theorem zpq{ph:List PB}{h0:SH}{p:PB}{b:SB}{ls:List Lf}(h:mB ph h0 p b=some ls)(r:List Lf):∃ w,iB p (ls++r)=(w,r)/\Lk p b w:=by
 unfold mB at h
 split at h
 ·split at h
  ·rename_i l md mk l' md' mk' _ hb
   simp only[Bool.and_eq_true] at hb
   obtain⟨hb,hmk⟩:=hb
   have hb:=zb hb
   subst hb
   obtain⟨w,e⟩:=xT _ h r
   exact⟨.cells w md mk,by simp only[iB,e],.inr (.inl ⟨_,_,_,_,_,hmk,rfl,rfl,_,rfl⟩)⟩
  ·cases h
 ·split at h
  ·rename_i pe id md e id' md' _ hb
   simp only[Bool.and_eq_true] at hb
   cases zb hb.1;cases zb hb.2
   obtain⟨w,e⟩:=xT _ h r
   exact⟨.loop w id md,by simp only[iB,e],.inr (.inr (.inr (.inr (.inr ⟨_,_,_,_,rfl,rfl,_,rfl⟩))))⟩
  ·cases h
 ·split at h
  ·rename_i u n md fx u' l k md' _ _ l2 hb hc
   simp only[Bool.and_eq_true,Bool.or_eq_true,Bool.not_eq_true'] at hb
   obtain⟨hb,hfx,hmk⟩:=hb
   have hb:=zb hb
   subst hb
   obtain⟨e1,e2⟩:=zq hc
   subst e1;cases e2;cases h
   exact⟨.seq u' l n md,rfl,.inr (.inr (.inl ⟨_,_,_,_,_,rfl,rfl,_,rfl,fun e=>hfx.elim (fun h=>by rw[e] at h;cases h) zb,hmk⟩))⟩
  ·cases h
 ·split at h
  ·rename_i ks vs md ks' vs' md' _ _ _ a b' hb h1 h2
   have hb:=zb hb
   subst hb
   cases h
   obtain⟨w1,e1⟩:=xT _ h1 (b'++r)
   obtain⟨w2,e2⟩:=xT _ h2 r
   exact⟨.map w1 w2 md,by simp only[iB,List.append_assoc,e1,e2],.inr (.inr (.inr (.inl ⟨_,_,_,_,_,rfl,rfl,_,_,rfl⟩)))⟩
  ·cases h
 ·rename_i u v md
  split at h
  ·split at h
   ·rename_i u' v' l' md' _ _ l2 hb hc
    have hb:=zb hb
    subst hb
    obtain⟨e1,e2⟩:=zq hc
    cases e1;cases e2;cases h
    exact⟨.kv u v l' md,rfl,.inr (.inr (.inr (.inr (.inl ⟨_,_,_,_,.inl ⟨_,rfl⟩,rfl,rfl⟩))))⟩
   ·cases h
  ·split at h
   ·rename_i ks vs md' hb
    have hb:=zb hb
    subst hb
    cases h
    exact⟨.kv u v [] md,rfl,.inr (.inr (.inr (.inr (.inl ⟨_,_,_,_,.inr rfl,rfl,rfl⟩))))⟩
   ·cases h
  ·cases h
 ·cases h;exact⟨.gone,rfl,.inl ⟨rfl,rfl⟩⟩
 ·cases h
theorem znb{ph:List PB}{h0:SH}:∀ {pl:List PB} {bl:List SB} {ls:List Lf},mBs ph h0 pl bl=some ls->∀ r,∃ zs,iBs pl (ls++r)=(zs,r)/\zs.length=pl.length/\pl.length<=bl.length/\∀ (i:Nat) (b':SB),zs[i]?=some b'->∃ pb b,pl[i]?=some pb/\bl[i]?=some b/\Lk pb b b'
 | [],bl,ls,h,r=>by simp [mBs] at h;subst h;exact⟨[],rfl,rfl,Nat.zero_le _,fun i b' h=>by simp at h⟩
 |p::pl,bl,ls,h,r=>by
  cases bl with
  |nil=>simp [mBs] at h
  |cons b bl=>
   simp only[mBs] at h
   split at h
   ·rename_i l1 l2 h1 h2
    cases h
    obtain⟨w,e1,k1⟩:=zpq h1 (l2++r)
    obtain⟨zs,e2,k2,k3,k4⟩:=znb h2 r
    refine⟨w::zs,by simp only[iBs,List.append_assoc,e1,e2],by simp [k2],by simp [k3],fun i b' hi=>?_⟩
    cases i with
    |zero=>simp at hi;subst hi;exact⟨p,b,rfl,rfl,k1⟩
    |succ i=>simpa using k4 i b' (by simpa using hi)
   ·cases h
theorem zlZ{ph:List PB}{X Z:Gst}(hM:Mt ph X Z){p:PB}{b:SB}{ls:List Lf}(h:mB ph X.sh p b=some ls){o:Option (Nat×Nat)}(hB:RB X b o)(r:List Lf):RB Z (iB p (ls++r)).1 o:=by
 unfold mB at h
 split at h
 ·split at h
  ·rename_i hb
   simp only[Bool.and_eq_true] at hb
   obtain⟨m,l',tt,e,h1,h2⟩:=hB
   obtain⟨w,e1,q⟩:=qG hM _ h h2 r
   obtain⟨tt',htt⟩:=zkc hb.2 tt
   simp only[iB,e1]
   exact⟨m,l',tt',e,by rw[hM.h,<- htt];exact h1,q⟩
  ·cases h
 ·split at h
  ·obtain⟨m,env',ps,asg,body,e,h1,h2,h3⟩:=hB
   rename_i hb
   simp only[Bool.and_eq_true] at hb
   cases zb hb.2
   obtain⟨w,e1,q⟩:=qG hM _ h h3 r
   simp only[iB,e1]
   exact⟨m,env',ps,asg,body,e,h1,by rw[hM.h];exact h2,q⟩
  ·cases h
 ·split at h
  ·rename_i u n md fx u' l k md' _ _ l2 hb hc
   obtain⟨e1,e2⟩:=zq hc
   subst e1;cases e2;cases h
   simp only[Bool.and_eq_true] at hb
   obtain⟨hb,_,hmk⟩:=hb
   have hb:=zb hb
   subst hb
   cases o with
   |none=>exact hB
   |some p=>
    obtain⟨m,ver⟩:=p
    obtain⟨cells,minv,tt,h1,h2,h3,h4⟩:=hB
    obtain⟨tt',htt⟩:=zkc hmk tt
    refine⟨cells,minv,tt',by rw[hM.h,<- htt];exact h1,h2,by rw[hM.h,hM.Φ];exact h3,fun e=>by rw[hM.Φ];exact h4 e⟩
  ·cases h
 ·split at h
  ·rename_i ks vs md ks' vs' md' _ _ _ a b' hb h1 h2
   cases h
   obtain⟨m,es,e,q1,q2,q3⟩:=hB
   obtain⟨w1,e1,r1⟩:=qG hM _ h1 q2 (b'++r)
   obtain⟨w2,e2,r2⟩:=qG hM _ h2 q3 r
   simp only[iB,List.append_assoc,e1,e2]
   exact⟨m,es,e,by rw[hM.h];exact q1,r1,r2⟩
  ·cases h
 ·rename_i u v md
  split at h
  ·split at h
   ·rename_i u' v' l' md' _ _ l2 hb hc
    obtain⟨e1,e2⟩:=zq hc
    cases e1;cases e2;cases h
    have hb:=zb hb
    subst hb
    obtain⟨m,es,e,q1,q2,q3⟩:=hB
    exact⟨m,es,e,by rw[hM.h];exact q1,znZ hM.h hM.Φ _ _ _ q2,znZ hM.h hM.Φ _ _ _ q3⟩
   ·cases h
  ·split at h
   ·rename_i hb
    cases h
    obtain⟨m,es,e,q1,q2,q3⟩:=hB
    exact⟨m,es,e,by rw[hM.h];exact q1,q2,q3⟩
   ·cases h
  ·cases h
 ·trivial
 ·cases h
theorem zfq{ph:List PB}{X Z:Gst}(hM:Mt ph X Z):∀ {pl:List PB} {bl:List SB} {ls:List Lf},mBs ph X.sh pl bl=some ls->∀ (r:List Lf) (i:Nat) (b b':SB) (o:Option (Nat×Nat)),(iBs pl (ls++r)).1[i]?=some b'->bl[i]?=some b->RB X b o->RB Z b' o
 | [],bl,ls,h,r,i,b,b',o,hz,hb,hB=>by simp [iBs] at hz
 |p::pl,bl,ls,h,r,i,b,b',o,hz,hb,hB=>by
  cases bl with
  |nil=>simp [mBs] at h
  |cons b0 bl=>
   simp only[mBs] at h
   split at h
   ·rename_i l1 l2 h1 h2
    cases h
    obtain⟨w,e1,k1⟩:=zpq h1 (l2++r)
    cases i with
    |zero=>
     simp only[List.getElem?_cons_zero,Option.some.injEq] at hb
     subst hb
     simp only[iBs,List.getElem?_cons_zero,Option.some.injEq,List.append_assoc] at hz
     subst hz
     exact zlZ hM h1 hB _
    |succ i=>
     simp only[iBs,List.getElem?_cons_succ,List.append_assoc,e1] at hz
     exact zfq hM h2 r i b b' o hz (by simpa using hb) hB
   ·cases h
end Go.Sx
namespace Go.Sx
open Go Go.Gx Go.Mx
variable [qE]
theorem Dk.zrL{k:Nat×Option Nat}{X:Gst}{h:za}{Φ:Nat->Prop}{σ:List (Option (Nat×Nat))}{sh:SH}{dl:List Dfd}{rnd:Option Nat}(q:Dk k X dl rnd)(hh:h=X.h)(hΦ:Φ=X.Φ)
  (hσ:∀ (i:Nat) (o:Option (Nat×Nat)),σ[i]?=some o->X.σ[i]?=some o) (hz:∀ (i m v:Nat) (b:SB),sh[i]?=some b->σ[i]?=some (some (m,v))->k.2=some m->Kp X m->b=.gone):Dk k ⟨h,Φ,σ,sh⟩ dl rnd:=by
 subst hh;subst hΦ
 exact⟨q.base,q.nd,fun d hd=>let⟨m,h1,h2,h3,h4,h5⟩:=q.dl d hd;⟨m,h1,h2,h3,⟨h4.lt,h4.phi,fun i v b hb ho=>absurd (hσ i _ ho) (h5 i v)⟩,fun i v e=>h5 i v (hσ i _ e)⟩,q.rnd,fun m hm=>let⟨h1,h2⟩:=q.lo m hm;⟨h1,h2.lt,h2.phi,fun i v b hb ho=>hz i m v b hb ho hm h2⟩⟩
theorem weaken{X0 Y:Gst}(hr0:RH X0)(hS:Stp X0 Y){q:PS}{st:SS}{ms:St}{k0:Nat×Option Nat}(hst:StR k0 Y st ms){os:List Lf}(hm:mS q st=some os)(hlen:X0.sh.length<=q.h.length)
  (hver:∀ (loc:Nat) (u:U) (n md:Nat) (fx:Bool),q.h[loc]?=some (.seq u n md fx)->loc<X0.sh.length->∃ u' l k md',X0.sh[loc]?=some (.seq u' l k md')/\(k<n\/(fx=true/\k=n)))
  (K:Nat->Bool) (hK:∀ i,K i=true->i<X0.sh.length/\Y.sh[i]?=some .gone/\Y.σ[i]?=X0.σ[i]? /\ ∀ m v,X0.σ[i]?=some (some (m,v))->Y.h[m]?=X0.h[m]? /\ (Y.Φ m->X0.Φ m))
  (hlo:∀ m,k0.2=some m->Kp X0 m) {zh:SH} (hzl:zh.length=(iS q os).h.length) (hz:∀ i,zh[i]?=if K i=true then X0.sh[i]? else(iS q os).h[i]?):
  ∃ Z,Stp X0 Z/\StR k0 Z ⟨(iS q os).env,zh⟩ ms/\Z.h=Y.h/\Z.Φ=Y.Φ/\Z.σ=Y.σ.take q.h.length/\∀ (i:Nat),q.h[i]?=some .gone->(iS q os).h[i]?=some .gone:=by
 unfold mS at hm
 split at hm
 ·rename_i l1 l2 h1 h2
  cases hm
  rw[<- hst.sh] at h1 h2
  obtain⟨we,e1⟩:=xT q.env h1 l2
  obtain⟨zs,e2,k1,k2,k3⟩:=znb h2 []
  rw[List.append_nil] at e2
  have hiS:iS q (l1++l2)=⟨we,zs⟩:=by unfold iS;rw[e1,e2]
  rw[hiS] at hz hzl |-
  have hzl:zh.length=zs.length:=hzl
  have hz:∀ (i:Nat),zh[i]?=if K i=true then X0.sh[i]? else zs[i]?:=hz
  have hσn:(Y.σ.take q.h.length).length=q.h.length:=by rw[List.length_take,hS.hr.len];omega
  have hσg:∀ (i:Nat),i<q.h.length->(Y.σ.take q.h.length)[i]?=Y.σ[i]?:=fun i hi=>by rw[List.getElem?_take,if_pos hi]
  have hσs:∀ (i:Nat) o,(Y.σ.take q.h.length)[i]?=some o->Y.σ[i]?=some o/\i<q.h.length:=fun i o h=>by
   rw[List.getElem?_take] at h;split at h
   ·rename_i hi;exact⟨h,hi⟩
   ·cases h
  have hzs:∀ (i:Nat),i<q.h.length->∃ b',zs[i]?=some b':=fun i hi=>⟨zs[i]'(by omega),List.getElem?_eq_getElem _⟩
  have hM:Mt q.h Y ⟨Y.h,Y.Φ,Y.σ.take q.h.length,zh⟩:=by
   refine⟨rfl,rfl,fun loc m ⟨v,h⟩ hl=>⟨v,(hσg loc hl).trans h⟩,fun loc u n md fx u' l k md' hp hb=>?_⟩
   have hl:=(List.getElem?_eq_some_iff.1 hp).1
   refine⟨?_,hσg loc hl⟩
   show zh[loc]?=_
   rw[hz,if_neg (fun hk=>by have:=(hK loc hk).2.1;rw[hb] at this;cases this)]
   obtain⟨b',hb'⟩:=hzs loc hl
   obtain⟨pb,b,h3,h4,h5⟩:=k3 loc b' hb'
   rw[hp] at h3;cases h3
   rw[hb] at h4;cases h4
   rw[hb']
   rcases h5 with⟨h,_⟩|⟨_,_,_,_,_,_,_,_,_,h⟩|⟨u3,l3,k4,n3,md3,h6,h7,fx3,h8,hfx3,_⟩|⟨_,_,_,_,_,_,_,_,_,h⟩|⟨_,_,_,_,_,_,h⟩|⟨_,_,_,_,_,_,_,h⟩
   ·cases h
   ·cases h
   ·cases h6;cases h8;rw[h7]
   ·cases h
   ·cases h
   ·cases h
  obtain⟨we',e3,hwe⟩:=qG hM q.env h1 hst.env l2
  rw[e1] at e3
  cases e3
  have hle:X0.le ⟨Y.h,Y.Φ,Y.σ.take q.h.length,zh⟩:=by
   refine⟨hS.le.h,hS.le.Φ,by show _<=(Y.σ.take q.h.length).length;rw[hσn,hr0.len];exact hlen,fun loc m v h=>?_,fun loc u l k md hl hs=>?_,hS.le.shl⟩
   ·obtain⟨v',h'⟩:=hS.le.at_ loc m v h
    have:=(List.getElem?_eq_some_iff.1 h).1
    exact⟨v',(hσg loc (by rw[hr0.len] at this;omega)).trans h'⟩
   ·have hs:zh[loc]?=some (.seq u l k md):=hs
    rw[hz] at hs
    split at hs
    ·rename_i hk
     exact⟨l,k,md,hs,Nat.le_refl _,fun _=>⟨rfl,(hσg loc (by omega)).trans (hK loc hk).2.2.1⟩⟩
    ·obtain⟨pb,b,h3,h4,h5⟩:=k3 loc _ hs
     rcases h5 with⟨_,h⟩|⟨_,_,_,_,_,_,_,h,_⟩|⟨u3,l3,k4,n3,md3,h6,h7,fx3,h8,hfx3,_⟩|⟨_,_,_,_,_,_,h,_⟩|⟨_,_,_,_,_,h,_⟩|⟨_,_,_,_,_,h,_⟩
     ·cases h
     ·cases h
     ·cases h7
      subst h6;subst h8
      obtain⟨u',l0,k0,md0,h9,h10⟩:=hver loc _ _ _ _ h3 hl
      obtain⟨l',k',md',h11,h12,h13⟩:=hS.le.seq loc _ _ _ _ hl h4
      rw[h9] at h11;cases h11
      rcases h10 with h10|⟨h10,h14⟩
      ·exact⟨_,_,_,h9,Nat.le_of_lt h10,fun e=>absurd e (by omega)⟩
      ·have hk:=hfx3 h10
       subst hk;subst h14
       obtain⟨q1,q2⟩:=h13 rfl
       exact⟨_,_,_,h9,Nat.le_refl _,fun _=>⟨q1,(hσg loc (by omega)).trans q2⟩⟩
     ·cases h
     ·cases h
     ·cases h
  refine⟨⟨Y.h,Y.Φ,Y.σ.take q.h.length,zh⟩,⟨hle,⟨?_,fun i j m v v' h3 h4=>?_,fun i m v h3=>?_,hS.hr.Φlt,fun i b o h3 h4=>?_,fun i m v b h3 h4 h5=>?_⟩,⟨hS.fm.len,hS.fm.h,fun i b hb hmd=>?_,fun i m v h3 hm=>?_,fun i h3=>?_,hS.fm.phi⟩⟩,⟨hwe,rfl,hst.h,hst.dk.zrL rfl rfl (fun i o e=>(hσs i o e).1) fun i m v b h3 h4 hkm hk=>?_⟩,rfl,rfl,rfl,fun i hi=>?_⟩
  ·show(Y.σ.take q.h.length).length=zh.length;rw[hσn,hzl,k1]
  ·exact hS.hr.inj _ _ _ _ _ (hσs _ _ h3).1 (hσs _ _ h4).1
  ·exact hS.hr.lt _ _ _ (hσs _ _ h3).1
  ·have h3:zh[i]?=some b:=h3
   obtain⟨h4,h5⟩:=hσs _ _ h4
   rw[hz] at h3
   split at h3
   ·rename_i hk
    obtain⟨q1,q2,q3,q4⟩:=hK i hk
    rw[q3] at h4
    exact(hr0.blk i b o h3 h4).le hle fun m v e=>(q4 m v (e ▸ h4)).1
   ·obtain⟨pb,b0,h6,h7,h8⟩:=k3 i _ h3
    have:=zfq hM h2 [] i b0 b o (by rw[List.append_nil,e2];exact h3) h7 (hS.hr.blk i b0 o h7 h4)
    exact this
  ·have h3:zh[i]?=some b:=h3
   obtain⟨h4,h6⟩:=hσs _ _ h4
   rw[hz] at h3
   split at h3
   ·rename_i hk
    obtain⟨q1,q2,q3,q4⟩:=hK i hk
    rw[q3] at h4
    exact hr0.own i m v b h3 h4 ((q4 m v h4).2 h5)
   ·obtain⟨pb,b0,h6,h7,h8⟩:=k3 i _ h3
    have ho:=hS.hr.own i m v b0 h7 h4 h5
    rcases h8 with⟨_,h⟩|⟨_,_,_,_,_,_,rfl,rfl,_⟩|⟨_,_,_,_,_,rfl,rfl,_⟩|⟨_,_,_,_,_,rfl,rfl,_⟩|⟨_,_,_,_,⟨_,rfl⟩|rfl,rfl,_⟩|⟨_,_,_,_,rfl,rfl,_⟩
    ·exact .inr h
    ·exact ho.imp id fun h=>by cases h
    ·exact ho.imp id fun h=>by cases h
    ·exact ho.imp id fun h=>by cases h
    ·exact ho.imp id fun h=>by cases h
    ·exact ho.imp id fun h=>by cases h
    ·exact ho.imp id fun h=>by cases h
  ·have hi:=(List.getElem?_eq_some_iff.1 hb).1
   show ∃ b',zh[i]?=some b'/\_
   rw[hz]
   split
   ·exact⟨b,hb,hmd⟩
   ·obtain⟨b',hb'⟩:=hzs i (by omega)
    obtain⟨pb,b0,h6,h7,h8⟩:=k3 i _ hb'
    obtain⟨b2,h9,h10⟩:=hS.fm.md i b hb hmd
    rw[h7] at h9;cases h9
    refine⟨b',hb',?_⟩
    rcases h8 with⟨_,rfl⟩|⟨_,_,_,_,_,_,rfl,rfl,_⟩|⟨_,_,_,_,_,rfl,rfl,_⟩|⟨_,_,_,_,_,rfl,rfl,_⟩|⟨_,_,_,_,⟨_,rfl⟩|rfl,rfl,_⟩|⟨_,_,_,_,rfl,rfl,_⟩
    ·simp [SB.md]
    ·exact h10
    ·exact h10
    ·exact h10
    ·exact h10
    ·exact h10
    ·exact h10
  ·exact hS.fm.new i m v (hσs _ _ h3).1 hm
  ·have hi:=(List.getElem?_eq_some_iff.1 h3).1
   obtain⟨h4,h5⟩:=hS.fm.gone i h3
   refine⟨?_,(hσg i (by omega)).trans h5⟩
   show zh[i]?=_
   rw[hz]
   split
   ·exact h3
   ·obtain⟨b',hb'⟩:=hzs i (by omega)
    obtain⟨pb,b0,h6,h7,h8⟩:=k3 i _ hb'
    rw[h4] at h7;cases h7
    rcases h8 with⟨_,rfl⟩|⟨_,_,_,_,_,_,h,_⟩|⟨_,_,_,_,_,h,_⟩|⟨_,_,_,_,_,h,_⟩|⟨_,_,_,_,⟨_,h⟩|h,_⟩|⟨_,_,_,_,h,_⟩
    ·exact hb'
    ·cases h
    ·cases h
    ·cases h
    ·cases h
    ·cases h
    ·cases h
  ·obtain⟨h4,h5⟩:=hσs _ _ h4
   have h3:zh[i]?=some b:=h3
   rw[hz] at h3
   split at h3
   ·rename_i hk2
    obtain⟨q1,q2,q3,q4⟩:=hK i hk2
    exact(hlo m hkm).gone i v b h3 (by rw[<- q3];exact h4)
   ·obtain⟨pb,b0,h6,h7,h8⟩:=k3 i _ h3
    have hg0:=hk.gone i v b0 h7 h4
    subst hg0
    rcases h8 with⟨_,h⟩|⟨_,_,_,_,_,_,h,_⟩|⟨_,_,_,_,_,h,_⟩|⟨_,_,_,_,_,h,_⟩|⟨_,_,_,_,⟨_,h⟩|h,_⟩|⟨_,_,_,_,h,_⟩
    ·exact h
    ·cases h
    ·cases h
    ·cases h
    ·cases h
    ·cases h
    ·cases h
  ·have hl:=(List.getElem?_eq_some_iff.1 hi).1
   obtain⟨b',hb'⟩:=hzs i hl
   obtain⟨pb,b0,h6,h7,h8⟩:=k3 i _ hb'
   rw[hi] at h6;cases h6
   rcases h8 with⟨_,rfl⟩|⟨_,_,_,_,_,_,_,_,_,h⟩|⟨_,_,_,_,_,_,_,_,h,_⟩|⟨_,_,_,_,_,_,_,_,_,h⟩|⟨_,_,_,_,_,_,h⟩|⟨_,_,_,_,_,_,_,h⟩
   ·exact hb'
   ·cases h
   ·cases h
   ·cases h
   ·cases h
   ·cases h
 ·cases hm
end Go.Sx
namespace Go.Sx
open Go Go.Gx Go.Mx
variable [qE]
def prN(t:Nat):Nat:=t/1099511627776*65536
def zhV:List (Nat×U)->SS->SS
 | [],st=>st
 |(t,u)::l,st=>match t % 1099511627776/65536 with
  |0=>match st.env[t % 65536]? with
   |some (.a .qj)=>zhV l ⟨st.env.set (t % 65536) (.gs st.h.length (prN t)),st.h++[.seq u [] (prN t) 0]⟩
   |_=>zhV l st
  |loc+1=>match st.h[loc]? with
   |some (.cells cs 0 mk)=>match cs[t % 65536]? with
    |some (.a .qj)=>zhV l ⟨st.env,(st.h++[SB.seq u [] (prN t) 0]).set loc (.cells (cs.set (t % 65536) (.gs st.h.length (prN t))) 0 mk)⟩
    |_=>zhV l st
   |_=>zhV l st
def zqZ:SV->SV->Bool
 |.ifc t (.agg []),.ifc t' (.agg [])=>Nat.beq t t'
 |_,_=>false
theorem zoq{X Z:Gst}{v w:SV}{x:AV}(h:zqZ v w=true)(hv:RV X w x):RV Z v x:=by
 unfold zqZ at h
 split at h
 ·have:=zb h
  subst this
  obtain⟨y,rfl,l,rfl,hl⟩:=hv
  cases(show l=[] from hl)
  exact⟨_,rfl,[],rfl,rfl⟩
 ·cases h
def zpU:SX->SX->Bool
 |.ret,.ret=>true
 |.exit i,.exit j=>Nat.beq i j
 |.panic v,.panic w=>zqZ v w
 |_,_=>false
def zgW(e:SX)(st:SS){R:Type}(out:Nat->List Lf->Option R):List (SX×PS)->Nat->Option R
 | [],_=>none
 |(x,q)::l,k=>match zpU x e with
  |true=>match mS q st with
   |some os=>out k os
   |none=>zgW e st out l (k+1)
  |false=>zgW e st out l (k+1)
def round(P:Program)(gl:GL)(ct:CT)(n:Nat)(pl:Pl)(p:PS)(outs:List (SX×PS))(c:Code){R:Type}(ls:List Lf)(rec_:List Lf->Option R)(out:Nat->List Lf->Option R):Option R:=
 ke P gl ct n pl c (iS p ls) fun e st'=>match e with
  |.normal=>match mS p st' with
   |some ls'=>rec_ ls'
   |none=>none
  |e=>zgW e st' out outs 0
abbrev LS:=(R:Type)->List Lf->(Nat->List Lf->Option R)->Option R
def zlJ:List PB->SH->Bool
 |.seq _ n _ fx::p,b::h=>(match b with
  |.seq _ _ k _=>Nat.blt k n||(fx&&Nat.beq k n)
  |_=>false)&&zlJ p h
 |_::p,_::h=>zlJ p h
 |_,_=>true
def back:SH->List PB->SH->SH
 |b0::h0,.gone::p,b::h=>(match b with
  |.gone=>b0
  |b=>b)::back h0 p h
 |_::h0,_::p,b::h=>b::back h0 p h
 |_,_,h=>h
def zfK(n:Nat)(h:SH):List (SX×PS)->Bool
 | []=>true
 |(_,q)::l=>Nat.ble n q.h.length&&zlJ q.h h&&zfK n h l
def qW(pre:List (Nat×U))(p:PS)(outs:List (SX×PS))(F:LS):LF:=fun R st K=>
 match mS p (zhV pre st),Nat.beq p.h.length (zhV pre st).h.length&&zlJ p.h (zhV pre st).h&&zfK (zhV pre st).h.length (zhV pre st).h outs with
 |some ls,true=>F R ls fun k os=>match outs[k]? with
  |some (x,q)=>K x ⟨(iS q os).env,back (zhV pre st).h p.h (iS q os).h⟩
  |none=>none
 |_,_=>none
theorem zbc:∀ {p:List PB} {h:SH},zlJ p h=true->∀ (loc:Nat) (u:U) (n md:Nat) (fx:Bool),p[loc]?=some (.seq u n md fx)->loc<h.length->∃ u' l k md',h[loc]?=some (.seq u' l k md')/\(k<n\/(fx=true/\k=n))
 | [],h,hv,loc,u,n,md,fx,hp,hl=>by simp at hp
 |q::p,[],hv,loc,u,n,md,fx,hp,hl=>by simp at hl
 |q::p,b::h,hv,loc,u,n,md,fx,hp,hl=>by
  cases loc with
  |zero=>
   simp at hp;subst hp
   simp only[zlJ,Bool.and_eq_true] at hv
   cases b with
   |seq u' l k md'=>
    simp only[Bool.or_eq_true,Bool.and_eq_true] at hv
    exact⟨u',l,k,md',rfl,hv.1.imp qg fun h=>⟨h.1,zb h.2⟩⟩
   |_=>simp at hv
  |succ loc=>
   have hv':zlJ p h=true:=by
    cases q<;>simp only[zlJ,Bool.and_eq_true] at hv<;>first|exact hv|exact hv.2
   simpa using zbc hv' loc u n md fx (by simpa using hp) (by simpa using hl)
theorem zcY{n:Nat}{h:SH}:∀ {outs:List (SX×PS)},zfK n h outs=true->∀ (k:Nat) (x:SX) (q:PS),outs[k]?=some (x,q)->n<=q.h.length/\zlJ q.h h=true
 | [],_,k,x,q,hk=>by simp at hk
 |(x0,q0)::l,ho,k,x,q,hk=>by
  simp only[zfK,Bool.and_eq_true] at ho
  cases k with
  |zero=>simp at hk;obtain⟨rfl,rfl⟩:=hk;exact⟨Nat.le_of_ble_eq_true ho.1.1,ho.1.2⟩
  |succ k=>exact zcY ho.2 k x q (by simpa using hk)
def kept(h0:SH)(p:List PB)(h:SH)(i:Nat):Bool:=match h0[i]?,p[i]?,h[i]? with
 |some _,some .gone,some .gone=>true
 |_,_,_=>false
theorem zhB:∀ {h0:SH} {p:List PB} {h:SH} (i:Nat),(back h0 p h)[i]?=if kept h0 p h i=true then h0[i]? else h[i]?
 | [],p,h,i=>by simp [back,kept]
 |b0::h0,[],h,i=>by simp [back,kept]
 |b0::h0,q::p,[],i=>by cases q<;>simp [back,kept]
 |b0::h0,q::p,b::h,i=>by
  cases i with
  |zero=>cases q<;>cases b<;>simp [back,kept]
  |succ i=>
   have:=zhB (h0:=h0) (p:=p) (h:=h) i
   cases q<;>simp only[back,List.getElem?_cons_succ,kept]<;>exact this
theorem zcF:∀ {h0:SH} {p:List PB} {h:SH},(back h0 p h).length=h.length
 | [],p,h=>by simp [back]
 |b0::h0,[],h=>by simp [back]
 |b0::h0,q::p,[]=>by cases q<;>simp [back]
 |b0::h0,q::p,b::h=>by
  have:=zcF (h0:=h0) (p:=p) (h:=h)
  cases q<;>simp only[back,List.length_cons,this]
section
variable {P:Program} {gl:GL} {ct:CT} {hk:qc}
theorem zoj{X:Gst}(hr:RH X)(u:U)(n:Nat):RV ⟨X.h,X.Φ,X.σ++[none],X.sh++[.seq u [] n 0]⟩ (.gs X.sh.length n) .qj:=by
 refine⟨rfl,none,?_,fun u' l' k' md' hb'=>?_⟩
 ·show(X.σ++[_])[X.sh.length]?=_
  rw[<- hr.len,List.getElem?_append_right (Nat.le_refl _),Nat.sub_self];rfl
 ·have hb':(X.sh++[SB.seq u [] n 0])[X.sh.length]?=some (.seq u' l' k' md'):=hb'
  rw[List.getElem?_append_right (Nat.le_refl _),Nat.sub_self] at hb'
  cases hb'
  exact⟨Nat.le_refl _,fun _=>⟨rfl,rfl⟩⟩
theorem j4{k:Nat×Option Nat}:∀ {pre:List (Nat×U)} {X:Gst} {st:SS} {ms:St},RH X->StR k X st ms->∃ Y,Stp X Y/\StR k Y (zhV pre st) ms
 | [],X,st,ms,hr,hs=>⟨X,.refl hr,hs⟩
 |(t,u)::l,X,st,ms,hr,hs=>by
  have S1:=Stp.zpH hr (b:=.seq u [] (prN t) 0) (by simp [SB.md]) (fun _=>rfl)
  have hgs:=zoj hr u (prN t)
  rw[hs.sh] at hgs
  simp only[zhV]
  split
  ·split
   ·rename_i ht
    obtain⟨x,h1,h2⟩:=hs.env.get ht
    cases(show x=_ from h2)
    rw[hs.sh] at S1
    have henv:=(hs.env.le S1.le).set (t % 65536) hgs
    rw[z7 h1] at henv
    obtain⟨Y,S2,hs2⟩:=j4 (pre:=l) (st:=⟨st.env.set (t % 65536) (.gs st.h.length (prN t)),st.h++[.seq u [] (prN t) 0]⟩) S1.hr ⟨henv,rfl,hs.h,hs.dk.step hr S1⟩
    exact⟨Y,S1.trans S2,hs2⟩
   ·exact j4 hr hs
  ·rename_i loc ht
   split
   ·rename_i cs mk hb
    split
    ·rename_i hc
     rw[hs.sh] at S1
     have hloc:=(List.getElem?_eq_some_iff.1 hb).1
     have hb1:(st.h++[SB.seq u [] (prN t) 0])[loc]?=some (.cells cs 0 mk):=by rw[List.getElem?_append_left hloc];exact hb
     have hso:loc<X.σ.length:=by rw[hr.len,hs.sh];exact hloc
     have ho1:(X.σ++[none])[loc]?=some X.σ[loc]:=by rw[List.getElem?_append_left hso];exact List.getElem?_eq_getElem hso
     obtain⟨m,l',tt,e1,e2,e3⟩:=S1.hr.blk _ _ _ hb1 ho1
     have S2:Stp ⟨X.h,X.Φ,X.σ++[none],st.h++[.seq u [] (prN t) 0]⟩ ⟨X.h,X.Φ,X.σ++[none],(st.h++[SB.seq u [] (prN t) 0]).set loc (.cells (cs.set (t % 65536) (.gs st.h.length (prN t))) 0 mk)⟩:=by
      refine Stp.turn S1.hr (o':=X.σ[loc]) (b':=.cells (cs.set (t % 65536) (.gs st.h.length (prN t))) 0 mk) hb1 ho1 (by simp) (fun _ _ _=>rfl) (fun _ _ _=>.inl rfl) (Nat.le_refl _) (fun m=>⟨.inl,fun h=>h.elim id fun h=>by cases h.1⟩) (z7 ho1).symm rfl (fun m v h=>?_) (fun m v h=>⟨v,h⟩) (fun u l k md h=>by cases h) (fun h=>absurd rfl h) (fun h=>by rcases h with h|h<;>cases h) (fun hle=>?_)
      ·exact⟨S1.hr.lt _ _ _ (h ▸ ho1),.inl ⟨v,h⟩⟩
      ·have hset:=(e3.le hle).set (t % 65536) (hgs.le hle)
       obtain⟨x,q1,q2⟩:=e3.get hc
       cases(show x=_ from q2)
       rw[z7 q1] at hset
       exact⟨m,l',tt,e1,e2,hset⟩
     obtain⟨Y,S3,hs3⟩:=j4 (pre:=l) (st:=⟨st.env,(st.h++[SB.seq u [] (prN t) 0]).set loc (.cells (cs.set (t % 65536) (.gs st.h.length (prN t))) 0 mk)⟩) S2.hr ⟨hs.env.le (S1.trans S2).le,rfl,hs.h,hs.dk.step hr (S1.trans S2)⟩
     exact⟨Y,S1.trans (S2.trans S3),hs3⟩
    ·exact j4 hr hs
   ·exact j4 hr hs
structure Inv(X0:Gst)(p:PS)(Y:Gst):Prop where
 stp:Stp X0 Y
 kept:∀ (i:Nat),p.h[i]?=some .gone->i<X0.sh.length->Y.sh[i]?=some .gone/\Y.σ[i]?=X0.σ[i]? /\ ∀ m v,X0.σ[i]?=some (some (m,v))->Y.h[m]?=X0.h[m]? /\ (Y.Φ m->X0.Φ m)
theorem Inv.step{X0 Y Z:Gst}{p:PS}(h:Inv X0 p Y)(hr0:RH X0)(hS:Stp Y Z):Inv X0 p Z:=by
 refine⟨h.stp.trans hS,fun i hi hl=>?_⟩
 obtain⟨h1,h2,h3⟩:=h.kept i hi hl
 obtain⟨h4,h5⟩:=hS.fm.gone i h1
 refine⟨h4,h5.trans h2,fun m v hm=>?_⟩
 obtain⟨h6,h7⟩:=h3 m v hm
 have hmY:m<Y.h.length:=h.stp.hr.lt i m v (h2.trans hm)
 refine⟨(hS.fm.h m hmY fun i' v' b' hb' hs'=>?_).trans h6,fun hΦ=>?_⟩
 ·have:=h.stp.hr.inj _ _ _ _ _ hs' (h2.trans hm)
  subst this
  rw[h1] at hb';cases hb';simp [SB.md]
 ·rcases hS.fm.phi m hmY hΦ with h8|⟨i',v',b',h8,h9,h10⟩
  ·exact h7 h8
  ·have:=h.stp.hr.inj _ _ _ _ _ h9 (h2.trans hm)
   subst this
   rw[h1] at h8;cases h8;exact absurd rfl h10
theorem zby{e:SX}{st:SS}{R:Type}{out:Nat->List Lf->Option R}{r:R}:∀ {outs:List (SX×PS)} {k:Nat},zgW e st out outs k=some r->∃ j x q os,outs[j]?=some (x,q)/\zpU x e=true/\mS q st=some os/\out (k+j) os=some r
 | [],k,h=>by simp [zgW] at h
 |(x,q)::l,k,h=>by
  simp only[zgW] at h
  split at h
  ·rename_i hx
   split at h
   ·rename_i os hos;exact⟨0,x,q,os,rfl,hx,hos,h⟩
   ·obtain⟨j,x',q',os,h1,h2,h3,h4⟩:=zby h
    exact⟨j+1,x',q',os,h1,h2,h3,by rwa [Nat.add_right_comm] at h4⟩
  ·obtain⟨j,x',q',os,h1,h2,h3,h4⟩:=zby h
   exact⟨j+1,x',q',os,h1,h2,h3,by rwa [Nat.add_right_comm] at h4⟩
theorem iter(hct:zmV P gl ct hk){n:Nat}{pl:Pl}{c:Code}(hpl:ji P gl hk pl c){p:PS}{outs:List (SX×PS)}{X0:Gst}(hr0:RH X0)(hg0:RGl P gl X0)(hlen:p.h.length=X0.sh.length)(hver:zlJ p.h X0.sh=true)(hout:zfK X0.sh.length X0.sh outs=true)
  {O:Type} {G:Nat->List Lf->Option O} {od:Nat->List Lf->Option O} (h0:∀ ls,G 0 ls=none) (hs:∀ m ls o,G (m+1) ls=some o->round P gl ct n pl p outs c ls (G m) od=some o) {k0:Nat×Option Nat} (hlo:∀ m,k0.2=some m->Kp X0 m):
  ∀ (m:Nat) (ls:List Lf) (o:O),G m ls=some o->∀ (Y:Gst) (ms:St),Inv X0 p Y->StR k0 Y (iS p ls) ms ->
  ∃ k os x q Z me ms',od k os=some o/\outs[k]?=some (x,q)/\Stp X0 Z/\StR k0 Z ⟨(iS q os).env,back X0.sh p.h (iS q os).h⟩ ms'/\ExR Z x me/\Ev fun m=>qQ P hk m (.loop c) ms=some (me,ms')
 |0,ls,o,h=>by rw[h0] at h;cases h
 |m+1,ls,o,h=>by
  intro Y ms hI hst
  have h:=hs m ls o h
  obtain⟨e,st',Y',me,ms',h1,S1,hs1,he1,ev1⟩:=(zg5 hct n).1 pl c hpl k0 _ _ _ _ Y ms h hst hI.stp.hr (hg0.le hI.stp.le)
  have hI':=hI.step hr0 S1
  have key:zgW e st' od outs 0=some o->(∀ m,qQ P hk m c ms=some (me,ms')->qQ P hk (m+1) (.loop c) ms=some (me,ms')) ->
    ∃ k os x q Z me ms',od k os=some o/\outs[k]?=some (x,q)/\Stp X0 Z/\StR k0 Z ⟨(iS q os).env,back X0.sh p.h (iS q os).h⟩ ms'/\ExR Z x me/\Ev fun m=>qQ P hk m (.loop c) ms=some (me,ms'):=by
   intro h1 hrun
   obtain⟨j,x,q,os,h2,h3,h4,h5⟩:=zby h1
   obtain⟨h6,h7⟩:=zcY hout j x q h2
   obtain⟨Z,S2,hs2,hh,hΦ,hσ,hg⟩:=weaken hr0 hI'.stp hs1 h4 h6 (zbc h7) (kept X0.sh p.h (iS q os).h) (fun i hi=>by
    unfold kept at hi
    split at hi
    ·rename_i a1 a2 a3
     have hl:=(List.getElem?_eq_some_iff.1 a1).1
     obtain⟨q1,q2,q3⟩:=hI'.kept i a2 hl
     exact⟨hl,q1,q2,q3⟩
    ·cases hi) hlo (zh:=back X0.sh p.h (iS q os).h) zcF zhB
   refine⟨0+j,os,x,q,Z,me,ms',h5,by simpa using h2,S2,hs2,?_,Ev.succ (ev1.mono hrun)⟩
   cases x<;>cases e<;>first|cases h3|skip
   ·cases me<;>first|trivial|cases he1
   ·have:=zb h3
    subst this
    cases me<;>first|exact he1|cases he1
   ·cases me<;>first|exact zoq h3 he1|cases he1
  cases e with
  |normal=>
   cases me<;>first|cases he1|skip
   simp only at h1
   split at h1
   ·rename_i ls' hls
    obtain⟨Z,S2,hs2,hh,hΦ,hσ,hg⟩:=weaken hr0 hI'.stp hs1 hls (by omega) (zbc hver) (fun _=>false) (fun _ h=>by cases h) hlo (zh:=(iS p ls').h) rfl (fun i=>by simp)
    have hI2:Inv X0 p Z:=by
     refine⟨S2,fun i hi hl=>?_⟩
     obtain⟨q1,q2,q3⟩:=hI'.kept i hi hl
     refine⟨by rw[hs2.sh];exact hg i hi,?_,fun m v hm=>?_⟩
     ·rw[hσ,List.getElem?_take,if_pos (by omega)];exact q2
     ·rw[hh,hΦ];exact q3 m v hm
    obtain⟨k,os,x,q,Z',me2,ms2,h2,h2',S3,hs3,he3,ev2⟩:=iter hct hpl hr0 hg0 hlen hver hout h0 hs hlo m ls' o h1 Z ms' hI2 hs2
    exact⟨k,os,x,q,Z',me2,ms2,h2,h2',S3,hs3,he3,Ev.succ ((ev1.and ev2).mono fun n ⟨p,q⟩=>by simp only[qQ,zX,p,q])⟩
   ·cases h1
  |ret=>
   cases me<;>first|cases he1|skip
   exact key h1 fun m p=>by simp only[qQ,zX,p]
  |exit id=>
   cases me<;>first|cases he1|skip
   exact key h1 fun m p=>by simp only[qQ,zX,p]
  |panic v=>
   cases me<;>first|cases he1|skip
   exact key h1 fun m p=>by simp only[qQ,zX,p]
abbrev KC(O:Type):=(R:Type)->O->(Nat->List Lf->Option R)->Option R
theorem ziv(hct:zmV P gl ct hk){n:Nat}{pl:Pl}{c:Code}(hpl:ji P gl hk pl c){pre:List (Nat×U)}{p:PS}{outs:List (SX×PS)}
  {O:Type} {G:Nat->List Lf->Option O} {od:Nat->List Lf->Option O} {kc:KC O} (h0:∀ ls,G 0 ls=none) (hs:∀ m ls o,G (m+1) ls=some o->round P gl ct n pl p outs c ls (G m) od=some o)
  (hk':∀ k os o,od k os=some o->∀ R κ,kc R o κ=κ k os) (N:Nat):zjb P gl hk (.loop c) (qW pre p outs fun R ls κ=>(G N ls).bind fun o=>kc R o κ):=by
 intro k0 R st K r X ms h hst hr hg
 unfold qW at h
 obtain⟨X0,S0,hs0⟩:=j4 (pre:=pre) hr hst
 generalize zhV pre st=st0 at h hs0
 split at h
 ·rename_i ls hls hok
  simp only[Bool.and_eq_true] at hok
  obtain⟨⟨h1,h2⟩,h3⟩:=hok
  have h1:=zb h1
  rw[<- hs0.sh] at h1 h2 h3
  obtain⟨o,ho,h4⟩:=Option.bind_eq_some_iff.1 h
  obtain⟨Z,S2,hs2,hh,hΦ,hσ,hgn⟩:=weaken S0.hr (Stp.refl S0.hr) hs0 hls (by omega) (zbc h2) (fun _=>false) (fun _ h=>by cases h) (fun m e=>(hs0.dk.lo m e).2) (zh:=(iS p ls).h) rfl (fun i=>by simp)
  obtain⟨k,os,x,q,Z',me2,ms2,h5',h5,S3,hs3,he3,ev2⟩:=iter hct hpl S0.hr (hg.le S0.le) h1 h2 h3 h0 hs (fun m e=>(hs0.dk.lo m e).2) N ls o ho Z ms ⟨S2,fun i hi hl=>⟨by rw[hs2.sh];exact hgn i hi,by rw[hσ,List.getElem?_take,if_pos (by omega)],fun m v hm=>by rw[hh,hΦ];exact⟨rfl,id⟩⟩⟩ hs2
  rw[hk' k os o h5' R] at h4
  simp only[h5] at h4
  rw[hs0.sh] at hs3
  exact⟨x,_,Z',me2,ms2,h4,S0.trans S3,hs3,he3,ev2⟩
 ·cases h
end
end Go.Sx
namespace Go.Sx
open Go Go.Gx Go.Mx
variable [qE]
def zba:List U->U
 | []=>.unit
 |u::l=>.pair u (zba l)
def wk:(us:List U)->El (zba us)->List SV
 | [],_=>[]
 |u::l,x=>zf8 u x.1::wk l x.2
def qY:(us:List U)->List SV->SH->Option (El (zba us)×SH)
 | [],[],h=>some ((),h)
 |u::us,v::vs,h=>match wy u v,dec u v.cells h with
  |true,some (x,[],h1)=>match qY us vs h1 with
   |some (y,h2)=>some ((x,y),h2)
   |none=>none
  |_,_=>none
 |_,_,_=>none
def unS(rs:List U)(v:SV):Option (List SV):=match rs with
 | [_]=>some [v]
 |_=>match v with
  |.tup vs=>some vs
  |_=>none
def zeA(rs:List U):SC->Option (El (zba rs))
 |.ret v h=>match unS rs v with
  |some vs=>match qY rs vs h with
   |some (x,_)=>some x
   |none=>none
  |none=>none
 |.pan _ _=>none
def zbe(us rs:List U)(F:El (zba us)->Option (El (zba rs))):CF:=fun R args h κ=>match qY us args h with
 |some (x,h')=>(F x).bind fun y=>κ (.ret (zop (wk rs y)) h')
 |none=>none
theorem zd1{h:za}{Φ:Nat->Prop}{Z:Gst}(hh:Z.h=h)(hΦ:Z.Φ=Φ){u:U}{x:El u}{cs:List AV}(q:RE h Φ u x cs):(u.agg=true->RV Z (zf8 u x) (.agg cs))/\(u.agg=false->∀ c,cs=[c]->RV Z (zf8 u x) c):=by
 subst hh;subst hΦ
 cases u with
 |bool=>exact⟨(fun h=>by cases h),fun _ c e=>by cases(show cs=_ from q);cases e;rfl⟩
 |int k=>exact⟨(fun h=>by cases h),fun _ c e=>by cases(show cs=_ from q);cases e;rfl⟩
 |u8=>exact⟨(fun h=>by cases h),fun _ c e=>by cases(show cs=_ from q);cases e;rfl⟩
 |str=>exact⟨(fun h=>by cases h),fun _ c e=>by cases(show cs=_ from q);cases e;rfl⟩
 |sl u=>exact⟨(fun h=>by cases h),fun _ c e=>by obtain⟨y,e2,q⟩:=znB.1 q;rw[e] at e2;cases e2;exact q⟩
 |slc u=>exact⟨(fun h=>by cases h),fun _ c e=>by obtain⟨y,e2,q⟩:=zhw.1 q;rw[e] at e2;cases e2;exact q⟩
 |pair u v=>exact⟨fun _=>⟨cs,rfl,wu q⟩,fun h=>by cases h⟩
 |unit=>exact⟨fun _=>⟨cs,rfl,q⟩,fun h=>by cases h⟩
theorem kr:∀ (us:List U) {X:Gst} (hr:RH X) {vs:List SV} {xs:List AV} {x:El (zba us)} {h':SH},RVs X vs xs->qY us vs X.sh=some (x,h') ->
  ∃ Y,Stp X Y/\Y.h=X.h/\Y.sh=h'/\∀ Z:Gst,Z.h=Y.h->(∀ m,Y.Φ m->Z.Φ m)->RVs Z (wk us x) xs
 | [],X,hr,vs,xs,x,h',hv,hd=>by
  cases vs with
  |nil=>simp only[qY] at hd;cases hd;cases(show xs=[] from hv);exact⟨X,.refl hr,rfl,rfl,fun Z _ _=>rfl⟩
  |cons=>simp [qY] at hd
 |u::us,X,hr,vs,xs,x,h',hv,hd=>by
  cases vs with
  |nil=>simp [qY] at hd
  |cons v vs=>
   obtain⟨a,t,rfl,q1,q2⟩:=hv
   simp only[qY] at hd
   split at hd
   ·rename_i y h1 hag hd1
    split at hd
    ·rename_i z h2 hd2
     cases hd
     have hc:∃ cs,RVs X v.cells cs/\((u.agg=true/\a=.agg cs)\/(u.agg=false/\cs=[a])):=by
      unfold wy at hag
      split at hag
      ·obtain⟨l',rfl,q⟩:=q1;exact⟨l',q,.inl ⟨hag,rfl⟩⟩
      ·rename_i hn
       have e1:v.cells=[v]:=by cases v<;>first|rfl|exact absurd rfl (hn _)
       refine⟨[a],e1 ▸ .one q1,.inr ⟨by simpa using hag,rfl⟩⟩
     obtain⟨cs,hcs,hca⟩:=hc
     obtain⟨Y,c1,c2,S1,hh1,hs1,e1,hRE,hr2⟩:=kV u hr hcs hd1
     cases(show c2=[] from hr2)
     rw[List.append_nil] at e1
     subst e1
     rw[<- hs1] at hd2
     obtain⟨W,S2,hh2,hs2,hW⟩:=kr us S1.hr (q2.le S1.le) hd2
     refine⟨W,S1.trans S2,hh2.trans hh1,hs2,fun Z hZ hΦ=>?_⟩
     have hRE':RE Z.h Z.Φ u y cs:=hRE.le (fun m hm=>by rw[hZ,hh2]) (fun m hm=>hΦ m (S2.le.Φ m hm))
     obtain⟨k1,k2⟩:=zd1 (Z:=Z) rfl rfl hRE'
     refine⟨a,t,rfl,?_,hW Z hZ hΦ⟩
     rcases hca with⟨hag,rfl⟩|⟨hag,rfl⟩
     ·exact k1 hag
     ·exact k2 hag a rfl
    ·cases hd
   ·cases hd
section
variable {P:Program} {gl:GL} {ct:CT} {hk:qc}
theorem zic{f:FuncId}{us rs:List U}{F:El (zba us)->Option (El (zba rs))}{run:CF}(hrun:zd2 P gl hk f run)
  (hF:∀ (Y:Gst) (x:El (zba us)) (margs:List AV),RVs Y (wk us x) margs->∃ vs,RVs Y vs margs/\run _ vs [] (zeA rs)=F x):zd2 P gl hk f (zbe us rs F):=by
 intro R args κ r X margs h hargs hr hg
 unfold zbe at h
 split at h
 ·rename_i x h' hd
  obtain⟨Y,S1,hh1,hs1,hA⟩:=kr us hr hargs hd
  cases hFx:F x with
  |none=>rw[hFx] at h;cases h
  |some y=>
   rw[hFx] at h
   have hY:RH Y.base:=⟨rfl,fun i j m v v' h=>by simp [Gst.base] at h,fun i m v h=>by simp [Gst.base] at h,S1.hr.Φlt,fun i b o h=>by simp [Gst.base] at h,fun i m v b h=>by simp [Gst.base] at h⟩
   have hgY:RGl P gl Y.base:=fun g cs hg'=>(hg.le S1.le) g cs hg'
   obtain⟨vs0,hvs0,hF0⟩:=hF Y.base x margs (hA Y.base rfl fun _ h=>h)
   rw[<- hF0] at hFx
   obtain⟨q,Z,mq,h1,S2,hcr,ev⟩:=hrun _ _ _ _ Y.base margs hFx hvs0 hY hgY
   cases q with
   |pan v sh=>cases h1
   |ret v sh=>
    cases mq with
    |pan=>cases hcr
    |ret xv hv'=>
     obtain⟨e1,e2,hv⟩:=hcr
     simp only[zeA] at h1
     split at h1
     ·rename_i vs hvs
      split at h1
      ·rename_i z h2 hd2
       cases h1
       rw[<- e1] at hd2
       have hun:∃ xs,RVs Z vs xs/\∀ W,(RVs W (wk rs y) xs->RV W (zop (wk rs y)) xv):=by
        unfold unS at hvs
        split at hvs
        ·cases hvs
         exact⟨[xv],.one hv,fun W ⟨a,t,e,q,ht⟩=>by cases e;exact q⟩
        ·rename_i hrs
         split at hvs
         ·cases hvs
          obtain⟨l',rfl,q⟩:=hv
          refine⟨l',q,fun W hW=>?_⟩
          have:zop (wk rs y)=.tup (wk rs y):=by
           match rs,y,hrs with
           | [],_,_=>rfl
           | [u],_,hrs=>exact absurd rfl (hrs u)
           |_::_::_,_,_=>rfl
          rw[this];exact⟨l',rfl,hW⟩
         ·cases hvs
       obtain⟨xs,hxs,hone⟩:=hun
       obtain⟨Z2,S3,hh3,hs3,hA3⟩:=kr rs S2.hr hxs hd2
       have S4:=S2.trans S3
       have hsame:∀ m,m<Y.h.length->Z2.h[m]?=Y.h[m]?:=fun m hm=>S4.fm.h m hm fun i v b hb=>by simp [Gst.base] at hb
       have hphi:∀ m,m<Y.h.length->Z2.Φ m->Y.Φ m:=fun m hm hΦ=>(S4.fm.phi m hm hΦ).elim id fun⟨i,v,b,hb,_⟩=>by simp [Gst.base] at hb
       have hle:Y.le ⟨Z2.h,Z2.Φ,Y.σ,Y.sh⟩:=⟨fun m hm=>hsame m (S1.hr.Φlt m hm),S4.le.Φ,Nat.le_refl _,fun _ _ v h=>⟨v,h⟩,fun _ _ l k md _ h=>⟨l,k,md,h,Nat.le_refl _,fun _=>⟨rfl,rfl⟩⟩,S1.hr.len⟩
       have S5:Stp Y ⟨Z2.h,Z2.Φ,Y.σ,Y.sh⟩:=by
        refine⟨hle,⟨S1.hr.len,S1.hr.inj,fun i m v h=>Nat.lt_of_lt_of_le (S1.hr.lt i m v h) S4.fm.len,S4.hr.Φlt,fun i b o hb ho=>(S1.hr.blk i b o hb ho).le hle fun m v e=>hsame m (S1.hr.lt i m v (e ▸ ho)),fun i m v b hb ho hΦ=>S1.hr.own i m v b hb ho (hphi m (S1.hr.lt i m v ho) hΦ)⟩,
         ⟨S4.fm.len,fun m hm _=>hsame m hm,fun i b hb hm=>⟨b,hb,hm⟩,fun i m v h _=>⟨v,h⟩,fun i h=>⟨h,rfl⟩,fun m hm hΦ=>.inl (hphi m hm hΦ)⟩⟩
       refine⟨_,_,.ret xv hv',h,S1.trans S5,⟨hs1,?_,hone _ (hA3 _ rfl fun _ h=>h)⟩,?_⟩
       ·show Z2.h=hv';rw[hh3,e2]
       ·rw[<- hh1];exact ev
      ·cases h1
     ·cases h1
 ·cases h
theorem zib(hct:zmV P gl ct hk){n:Nat}{pl:Pl}{f:FuncId}{us rs:List U}{F:El (zba us)->Option (El (zba rs))}(hpl:∀ fn b,P.funcs[f]?=some fn->fn.body=some b->ji P gl hk pl b)
  (hF:∀ (Y:Gst) (x:El (zba us)) (margs:List AV),RVs Y (wk us x) margs->∃ vs,RVs Y vs margs/\zaB P gl ct n pl f vs [] (zeA rs)=F x):zd2 P gl hk f (zbe us rs F):=zic (run:=fun R args h κ=>zaB P gl ct (R:=R) n pl f args h κ) ((zg5 hct n).2.2.1 pl f hpl) hF
theorem zjv(hct:zmV P gl ct hk){n:Nat}{pl:Pl}{f:FuncId}{us rs:List U}{F:El (zba us)->Option (El (zba rs))}(hpl:∀ fn b,P.funcs[f]?=some fn->fn.body=some b->ji P gl hk pl b)
  (hF:∀ x,zaB P gl ct n pl f (wk us x) [] (zeA rs)=F x):zd2 P gl hk f (zbe us rs F):=zib hct hpl fun Y x margs h=>⟨_,h,hF x⟩
end
end Go.Sx
namespace Go.Mx
open Go Go.Gx
def AV.zch:AV->Bool
 |.bool _|.int _ _|.str _|.zbf|.qj|.zcd|.zeX|.xQ|.any|.opq=>true
 |_=>false
def AV.zqz:AV->Bool
 |.tup l=>l.all AV.zch
 |v=>v.zch
theorem V.zch{G G':Gh}{v:AV}{u:Value}(hs:v.zch=true)(h:V G v u):V G' v u:=by
 cases h<;>first|(cases hs;done)|constructor
theorem VL.zch{G G':Gh}:∀ {l:List AV} {us:List Value},l.all AV.zch=true->VL G l us->VL G' l us
 | [],us,_,h=>by cases h;exact .nil
 |x::l,us,hs,h=>by
  cases h with
  |cons h1 h2=>
   simp only[List.all_cons,Bool.and_eq_true] at hs
   exact .cons (V.zch hs.1 h1) (VL.zch hs.2 h2)
theorem V.zqz{G G':Gh}{v:AV}{u:Value}(hs:v.zqz=true)(h:V G v u):V G' v u:=by
 cases v with
 |tup l=>cases h with|tup h=>exact .tup (VL.zch hs h)
 |_=>exact V.zch hs h
structure Laid(P:Program)(hgl:za)(Gg:Gh)(B:Nat)(W0:World):Prop where
 hr:HR Gg B hgl W0
 low:∀ loc v r,Gg.at loc v=some r->r.b<B
 g:∀ g,g<P.globals.size->∃ r,Gg.at g 0=some r/\r.b=g/\r.lo=0/\r.sh=0
def HOK(P:Program)(hgl:za)(Gg:Gh)(hk:qc):Prop:=∀ B W0,Laid P hgl Gg B W0->zcz P B W0 hk
section
variable {P:Program} {hgl:za} {Gg:Gh} {B:Nat} {W0 w:World}
theorem Laid.at(h:Laid P hgl Gg B W0)(hl:∀ b,b<B->w.heap[b]?=W0.heap[b]?)(hs:B<=w.heap.size){B':Nat}(hB:B<=B')(hs':B'<=w.heap.size):Laid P hgl Gg B' w:=by
 refine⟨⟨h.hr.len,fun loc b vs hb hg=>(h.hr.blk loc b vs hb hg).mono (Gh.le_refl _) fun v r hv=>hl _ (h.low loc v r (Gh.kk hg hv)),fun loc v r hat=>Nat.lt_of_lt_of_le (h.low loc v r hat) hs,fun loc v r b hat hb=>?_,fun l1 l2 v1 v2 r1 r2 h1 _ hB1 _=>?_,hs'⟩,fun loc v r hat=>Nat.lt_of_lt_of_le (h.low loc v r hat) hB,h.g⟩
 ·have h1:=h.hr.own loc v r b hat hb
  have h2:=h.low loc v r hat
  exact⟨fun e=>by have:=h1.1 e;omega,fun e=>by omega⟩
 ·have:=h.low l1 v1 r1 h1;omega
theorem zgl(hmo:P.follows .mixedOrders=true)(hng:zja P){hk:qc}(hh:HOK P hgl Gg hk)(hL:Laid P hgl Gg B W0){n f:Nat}{args:List AV}{h h':za}{v:AV}
  (hc:zcb P (qQ P hk n) f args hgl=some (.ret v h')) (ha:args.all AV.zch=true) (hs:v.zqz=true):zb2 P B W0 f args h (.ret v h):=by
 intro G us w hx hr hg
 left
 have hL':Laid P hgl Gg w.heap.size w:=hL.at hg.low hr.base hr.base (Nat.le_refl _)
 have hg':zbg P w.heap.size w Gg w:=⟨hL.g,fun _ _=>rfl⟩
 obtain⟨h1,h2⟩:=zas hng (ka hmo hng (hh _ _ hL') n).1 (ka hmo hng (hh _ _ hL') n).2.2 hc (VL.zch ha hx) hL'.hr hg'
 refine⟨h1.mono fun e w' hcr=>?_,h2⟩
 obtain⟨G',hS,u,hv,rfl⟩:=hcr
 refine⟨G,Step.grow hr hS.fr.size (fun b hb=>hS.fr.low b hb fun loc v r hat hB e=>?_) hS.fr.os hS.fr.tape hS.fr.output,u,V.zqz hs hv,rfl⟩
 have:=hL'.low _ _ _ hat;omega
theorem zjO(tab:List (FuncId×XK))(h:∀ f k,(f,k) ∈ tab->XFn P f k):HOK P hgl Gg (zgd tab):=fun B W0 _=>zob h B W0
def zl(hk:qc)(f:FuncId)(g:List AV->za->Option CR):qc:=fun k=>match Nat.beq k f with
 |true=>some g
 |false=>hk k
theorem zam{hk:qc}(hh:HOK P hgl Gg hk){f:FuncId}{g:List AV->za->Option CR}(hg:∀ B W0,Laid P hgl Gg B W0->∀ args h r,g args h=some r->zb2 P B W0 f args h r):HOK P hgl Gg (zl hk f g):=by
 intro B W0 hL f' g' hg' args h r hr
 unfold zl at hg'
 cases hb:Nat.beq f' f with
 |true=>
  rw[hb] at hg'
  cases hg'
  have:=Nat.eq_of_beq_eq_true hb
  subst this
  exact hg B W0 hL args h r hr
 |false=>rw[hb] at hg';exact hh B W0 hL f' g' hg' args h r hr
end
section
variable {P:Program} {G:Gh} {B:Nat} {h:za} {w:World}
theorem HR.zpG{blk:Blk}{r:Ver}(hr:HR G B h w)(ho:blk.own=false)(hlt:r.b<B)(hB:zje (G++[[r]]) w blk [r]):HR (G++[[r]]) B (h++[blk]) w:=by
 have hone:∀ (v:Nat) (r':Ver),[r][v]?=some r'->r'=r:=by
  intro v r' hv
  cases v with
  |zero=>simp at hv;exact hv.symm
  |succ v=>simp at hv
 refine⟨by rw[Arr.zv,List.length_append,hr.len];rfl,?_,?_,?_,?_,hr.base⟩
 ·intro loc b vs' hl hg
  by_cases hlt:loc<h.length
  ·rw[Arr.zO hlt] at hl
   rw[List.getElem?_append_left (by rw[hr.len];exact hlt)] at hg
   exact(hr.blk loc b vs' hl hg).mono (Gh.wz _ _) fun v r hv=>rfl
  ·have hle:loc=h.length:=by
    have:=Arr.lt hl;rw[Arr.zv] at this;simp at this;omega
   subst hle
   rw[Arr.zt (by omega)] at hl
   rw[List.getElem?_append_right (by rw[hr.len];omega),hr.len] at hg
   simp at hl hg
   subst hl;subst hg;exact hB
 ·intro loc v r' hat
  rcases kl hat with hat|⟨_,hat⟩
  ·exact hr.lt _ _ _ hat
  ·rw[hone _ _ hat];exact Nat.lt_of_lt_of_le hlt hr.base
 ·intro loc v r' b hat hl
  rcases kl hat with hat|⟨hl',hat'⟩
  ·obtain⟨b',_,hb',_⟩:=hr.get hat
   have hlt:=Arr.lt hb'
   rw[Arr.zO hlt] at hl
   exact hr.own _ _ _ _ hat hl
  ·rw[hl',hr.len,Arr.zt (by omega)] at hl
   simp at hl;subst hl
   rw[ho,hone _ _ hat']
   exact Iff.intro (fun e=>by cases e) (fun e=>by omega)
 ·intro l1 l2 v1 v2 r1 r2 ha1 ha2 hB1 he
  rcases kl ha1 with h1|⟨e1,h1⟩<;>rcases kl ha2 with h2|⟨e2,h2⟩
  ·exact hr.apart _ _ _ _ _ _ h1 h2 hB1 he
  ·rw[hone _ _ h2] at he;omega
  ·rw[hone _ _ h1] at hB1;omega
  ·exact e1.trans e2.symm
theorem HR.zbA{xs:List AV}{cs:List Value}{a:Addr}{c:Array Value}{T:TypeId}{fr:Nat×Nat}(hr:HR G B h w)(hlt:a.block<B)(hc:w.heap[a.block]?=some (.cells c T fr))(hx:VL G xs cs)
  (hcs:∀ (j:Nat) (u:Value),cs[j]?=some u->c[j+a.off]?=some u) (hsz:xs.length+a.off<=c.size):
  HR (G++[[⟨a.block,0,xs.length,c.size,a.off⟩]]) B (h++[Blk.lay xs]) w:=by
 refine hr.zpG rfl hlt (.inr ⟨_,rfl,rfl,rfl,c,T,fr,hc,rfl,hsz,fun p hp=>?_⟩)
 have hp':p<xs.length:=hp
 obtain⟨u,e1,e2⟩:=hx.get (List.getElem?_eq_getElem hp')
 exact⟨_,u,List.getElem?_eq_getElem hp',hcs p u e1,e2.le (Gh.wz _ _)⟩
end
def zdJ{α:Type}(f:α->za->Option (List AV×za)):List α->za->Option (List AV×za)
 | [],h=>some ([],h)
 |d::l,h=>match f d h with
  |some (xs,h1)=>match zdJ f l h1 with
   |some (ys,h2)=>some (xs++ys,h2)
   |none=>none
  |none=>none
def flush(P:Program):List Field->Nat->Nat->Bool
 | [],o,n=>Nat.beq o n
 |f::l,o,n=>Nat.beq f.offset o&&flush P l (o+P.cellsOf f.type) n
def zna{H:Type}(P:Program):Nat->TypeId->DataW H->za->Option (List AV×za)
 |0,_,_,_=>none
 |n+1,t,d,h=>match P.underlying t,d with
  |some .bool,.lit (.bool b)=>some ([.bool b],h)
  |some (.int _),.lit (.int k m)=>some ([.int k m],h)
  |some .string,.lit (.string l)=>some ([.str l],h)
  |some (.pointer _),.nil=>some ([.zbf],h)
  |some (.pointer e),.ptr d=>match zna P n e d h with
   |some (x::xs,h')=>some ([.ptr h'.length 0 0 (xs.length+1)],h'++[Blk.lay (x::xs)])
   |_=>none
  |some (.slice _),.nil=>some ([.qj],h)
  |some (.slice e),.slice (d::l) _=>match zdJ (zna P n e) (d::l) h with
   |some (x::xs,h')=>some ([.sl h'.length 0 (l.length+1) (P.cellsOf e) 0 false],h'++[Blk.lay (x::xs)])
   |_=>none
  |some (.slice e),.slice [] _=>if Nat.blt 0 (P.cellsOf e)=true then some ([.sl h.length 0 0 (P.cellsOf e) 0 false],h++[Blk.lay []]) else none
  |some (.struct fs),.agg ds=>if flush P fs.toList 0 (P.cellsOf t)=true/\ds.length=fs.size then zdJ (fun p=>zna P n p.1.type p.2) (fs.toList.zip ds) h else none
  |some (.array m e),.agg ds=>if m*P.cellsOf e=P.cellsOf t/\ds.length=m then zdJ (zna P n e) ds h else none
  |some (.interface _),.nil=>some ([.xQ],h)
  |some (.interface _),.iface _ _=>some ([.opq],h)
  |_,_=>none
section
variable {P:Program} {B:Nat} {w:World}
theorem mapM_some{α β:Type}{f:α->Option β}:∀ {l:List α} {r:List β},l.mapM f=some r->r.length=l.length/\∀ (i:Nat) (a:α),l[i]?=some a->∃ b,r[i]?=some b/\f a=some b
 | [],r,h=>by simp at h;subst h;simp
 |x::l,r,h=>by
  simp only[List.mapM_cons,Option.bind_eq_bind,Option.bind_eq_some_iff,Option.pure_def,Option.some.injEq] at h
  obtain⟨b,hb,r',hr',rfl⟩:=h
  obtain⟨h1,h2⟩:=mapM_some hr'
  refine⟨by simp [h1],fun i a ha=>?_⟩
  cases i with
  |zero=>simp at ha;subst ha;exact⟨b,rfl,hb⟩
  |succ i=>simpa using h2 i a (by simpa using ha)
theorem wY{base n:Nat}{a:Addr}{cs:List Value}(h:w.cells? base a n=some cs):cs.length=n/\∀ (j:Nat) (u:Value),cs[j]?=some u->w.cell? (a.add j)=some u:=by
 unfold World.cells? at h
 split at h
 ·obtain⟨h1,h2⟩:=mapM_some h
  rw[List.length_range] at h1
  refine⟨h1,fun j u hu=>?_⟩
  have hj:j<n:=by rw[<- h1];exact(List.getElem?_eq_some_iff.1 hu).1
  obtain⟨b,e1,e2⟩:=h2 j j (by simp [hj])
  rw[hu] at e1;cases e1
  exact e2
 ·cases h
theorem zdx{a:Addr}{u:Value}(h:w.cell? a=some u):∃ c T fr,w.heap[a.block]?=some (.cells c T fr)/\a.spot=none/\c[a.off]?=some u:=by
 unfold World.cell? at h
 split at h
 ·rename_i c T fr hb
  split at h
  ·cases h
  ·rename_i hs
   exact⟨c,T,fr,hb,by cases hsp:a.spot<;>simp_all,h⟩
 ·cases h
theorem jr(a:Addr)(j:Nat):(a.add j).block=a.block/\(a.add j).off=a.off+j:=by
 unfold Addr.add
 split
 ·subst_vars;exact⟨rfl,rfl⟩
 ·exact⟨rfl,rfl⟩
theorem wq{base n:Nat}{a:Addr}{cs:List Value}(h:w.cells? base a n=some cs)(hn:0<n):∃ c T fr,w.heap[a.block]?=some (.cells c T fr)/\a.spot=none/\(∀ (j:Nat) (u:Value),cs[j]?=some u->c[j+a.off]?=some u)/\n+a.off<=c.size:=by
 obtain⟨h1,h2⟩:=wY h
 have h0:=h2 0 _ (List.getElem?_eq_getElem (by omega))
 obtain⟨c,T,fr,e1,e2,e3⟩:=zdx h0
 have ha0:a.add 0=a:=by simp [Addr.add]
 rw[ha0] at e1 e2
 have hall:∀ (j:Nat) (u:Value),cs[j]?=some u->c[j+a.off]?=some u:=by
  intro j u hu
  obtain⟨c',T',fr',f1,_,f3⟩:=zdx (h2 j u hu)
  rw[(jr a j).1,e1] at f1
  cases f1
  rw[(jr a j).2,Nat.add_comm] at f3
  exact f3
 refine⟨c,T,fr,e1,e2,hall,?_⟩
 have hl:=hall (n-1) _ (List.getElem?_eq_getElem (by omega))
 have:=(Array.getElem?_eq_some_iff.1 hl).1
 omega
def Gh.ext(G G':Gh):Prop:=∃ E,G'=G++E
theorem Gh.zT(G:Gh):G.ext G:=⟨[],by simp⟩
theorem Gh.ext.trans{a b c:Gh}(h:a.ext b)(k:b.ext c):a.ext c:=by
 obtain⟨E,rfl⟩:=h
 obtain⟨F,rfl⟩:=k
 exact⟨E++F,by rw[List.append_assoc]⟩
theorem Gh.ext.le{a b:Gh}(h:a.ext b):a.le b:=by
 obtain⟨E,rfl⟩:=h
 intro loc v r hat
 unfold Gh.at at *
 cases hg:a[loc]? with
 |none=>rw[hg] at hat;cases hat
 |some vs=>rw[hg] at hat;rw[List.getElem?_append_left (List.getElem?_eq_some_iff.1 hg).1,hg];exact hat
theorem Gh.ext.get{a b:Gh}(h:a.ext b){loc:Nat}{vs:List Ver}(hg:a[loc]?=some vs):b[loc]?=some vs:=by
 obtain⟨E,rfl⟩:=h
 rw[List.getElem?_append_left (List.getElem?_eq_some_iff.1 hg).1];exact hg
theorem Gh.xx(G:Gh)(vs:List Ver):G.ext (G++[vs]):=⟨[vs],rfl⟩
theorem wK{α:Type}{f:α->za->Option (List AV×za)}{Q:α->List Value->Prop}
  (hf:∀ d h xs h' G,HR G B h w->f d h=some (xs,h')->∀ cs,Q d cs->∃ G',HR G' B h' w/\G.ext G'/\VL G' xs cs):
  ∀ {ds:List α} {h h':za} {xs:List AV} {G:Gh} {css:List (List Value)},HR G B h w->zdJ f ds h=some (xs,h')->css.length=ds.length->(∀ (i:Nat) (d:α) (cs:List Value),ds[i]?=some d->css[i]?=some cs->Q d cs) ->
   ∃ G',HR G' B h' w/\G.ext G'/\VL G' xs css.flatten
 | [],h,h',xs,G,css,hr,hl,hlen,_=>by
  cases hl
  have:css=[]:=List.eq_nil_of_length_eq_zero hlen
  subst this
  exact⟨G,hr,Gh.zT _,.nil⟩
 |d::ds,h,h',xs,G,css,hr,hl,hlen,hq=>by
  cases css with
  |nil=>simp at hlen
  |cons cs css=>
   unfold zdJ at hl
   split at hl
   ·rename_i ys h1 h2
    split at hl
    ·rename_i zs h3 h4
     cases hl
     obtain⟨G1,r1,l1,v1⟩:=hf d h ys h1 G hr h2 cs (hq 0 d cs rfl rfl)
     obtain⟨G2,r2,l2,v2⟩:=wK hf (css:=css) r1 h4 (by simpa using hlen) (fun i d' cs' e1 e2=>hq (i+1) d' cs' (by simpa using e1) (by simpa using e2))
     exact⟨G2,r2,l1.trans l2,(v1.le l2.le).append v2⟩
    ·cases hl
   ·cases hl
theorem zgr{c:Array Value}{sz:Nat}:∀ {css:List (List Value)} {o:Nat},(∀ (i:Nat) (cs:List Value),css[i]?=some cs->cs.length=sz/\∀ (k:Nat) (u:Value),cs[k]?=some u->c[k+(o+i*sz)]?=some u) ->
  css.flatten.length=css.length*sz/\∀ (j:Nat) (u:Value),css.flatten[j]?=some u->c[j+o]?=some u
 | [],o,_=>by simp
 |cs::css,o,h=>by
  obtain⟨h1,h2⟩:=h 0 cs rfl
  obtain⟨h3,h4⟩:=zgr (css:=css) (o:=o+sz) (c:=c) (sz:=sz) (fun i cs' hi=>by
   obtain⟨q1,q2⟩:=h (i+1) cs' (by simpa using hi)
   refine⟨q1,fun k u hu=>?_⟩
   have:=q2 k u hu
   rwa [show o+(i+1)*sz=o+sz+i*sz from by rw[Nat.add_mul];omega] at this)
  refine⟨by simp only[List.flatten_cons,List.length_append,List.length_cons,h1,h3,Nat.add_mul];omega,fun j u hu=>?_⟩
  rw[List.flatten_cons,List.getElem?_append] at hu
  split at hu
  ·have:=h2 j u hu
   simpa using this
  ·rename_i hge
   have:=h4 _ u hu
   rwa [h1,show j-sz+(o+sz)=j+o from by omega] at this
theorem zbj{cs:List Value}:∀ {l:List Field} {o n:Nat},flush P l o n=true->cs.length=n->o<=n->(l.map fun f=>(cs.drop f.offset).take (P.cellsOf f.type)).flatten=cs.drop o
 | [],o,n,h,hl,ho=>by
  have:=Nat.eq_of_beq_eq_true h
  simp;omega
 |f::l,o,n,h,hl,ho=>by
  simp only[flush,Bool.and_eq_true] at h
  have he:=Nat.eq_of_beq_eq_true h.1
  by_cases hle:o+P.cellsOf f.type<=n
  ·have ih:=zbj (cs:=cs) h.2 hl hle
   simp only[List.map_cons,List.flatten_cons]
   rw[ih,he,<- List.drop_drop]
   exact List.take_append_drop _ _
  ·exfalso
   have:∀ (l:List Field) (o:Nat),flush P l o n=true->o<=n:=by
    intro l
    induction l with
    |nil=>intro o h;have:=Nat.eq_of_beq_eq_true h;omega
    |cons f l ih=>intro o h;simp only[flush,Bool.and_eq_true] at h;have:=ih _ h.2;omega
   exact hle (this l _ h.2)
theorem trod_array{H:Type}{enc:TypeId×Value->H}{base:Nat}{sp:Nat->Bool}{held:Bool}{fuel k:Nat}{t e:TypeId}{cs:List Value}{x:DataW H×List MemPlace}(ht:P.underlying t=some (.array k e))(h:DataW.trod enc P w base sp held fuel t cs=some x):
  ∃ (xs:List (DataW H×List MemPlace)) (n:Nat),fuel=n+1/\x.1=.agg (xs.map (·.1))/\cs.length=P.cellsOf t/\xs.length=k/\∀ i,i<k->DataW.trod enc P w base sp held n e ((cs.drop (i*P.cellsOf e)).take (P.cellsOf e))=xs[i]?:=by
 cases fuel with
 |zero=>simp [DataW.trod] at h
 |succ n=>
  unfold DataW.trod at h
  rw[ht] at h
  simp only at h
  split at h
  ·rename_i hlen
   obtain⟨xs,h1,h2⟩:=Option.map_eq_some_iff.1 h
   obtain⟨h3,h4⟩:=mapM_some h1
   rw[List.length_range] at h3
   subst h2
   refine⟨xs,n,rfl,rfl,hlen,h3,fun i hi=>?_⟩
   obtain⟨b,e1,e2⟩:=h4 i i (by simp [hi])
   rw[e2,e1]
  ·cases h
theorem zdv{H:Type}{enc:TypeId×Value->H}{base:Nat}{sp:Nat->Bool}{held:Bool}{fuel:Nat}{t:TypeId}{ms:Array (String×TypeId)}{cs:List Value}{p:List MemPlace}(ht:P.underlying t=some (.interface ms))(h:DataW.trod enc P w base sp held fuel t cs=some (.nil,p)):cs=[.nilIface]:=by
 cases fuel with
 |zero=>simp [DataW.trod] at h
 |succ n=>
  unfold DataW.trod at h
  rw[ht] at h
  split at h<;>first|(cases h;done)|skip
  all_goals first
   |rfl
   |(exfalso;simp_all;done)
   |(exfalso;split at h<;>simp_all;done)
theorem zdc{H:Type}{enc:TypeId×Value->H}{base:Nat}{sp:Nat->Bool}{held:Bool}{fuel:Nat}{t:TypeId}{ms:Array (String×TypeId)}{cs:List Value}{p:List MemPlace}{nm:String}{d:DataW H}(ht:P.underlying t=some (.interface ms))(h:DataW.trod enc P w base sp held fuel t cs=some (.iface nm d,p)):∃ u v,cs=[.iface u v]:=by
 cases fuel with
 |zero=>simp [DataW.trod] at h
 |succ n=>
  match cs with
  | []=>simp [DataW.trod,ht] at h
  |_::_::_=>simp [DataW.trod,ht] at h
  | [c]=>
   cases c<;>simp [DataW.trod,ht] at h
   exact⟨_,_,rfl⟩
theorem zdw{cs:List Value}{sz:Nat}:∀ {k o:Nat},cs.length=o+k*sz->((List.range k).map fun i=>(cs.drop (o+i*sz)).take sz).flatten=cs.drop o
 |0,o,h=>by simp;omega
 |k+1,o,h=>by
  have ih:=zdw (cs:=cs) (sz:=sz) (k:=k) (o:=o+sz) (by rw[h,Nat.add_mul];omega)
  rw[List.range_succ_eq_map,List.map_cons,List.flatten_cons,List.map_map]
  have e:((fun i=>(cs.drop (o+i*sz)).take sz) ∘ Nat.succ)=fun i=>(cs.drop (o+sz+i*sz)).take sz:=by
   funext i
   simp only[Function.comp]
   rw[show o+i.succ*sz=o+sz+i*sz from by rw[Nat.succ_eq_add_one,Nat.add_mul];omega]
  rw[e,ih,Nat.zero_mul,Nat.add_zero,<- List.drop_drop]
  exact List.take_append_drop _ _
theorem zfk{H:Type}{enc:TypeId×Value->H}{base:Nat}{held:Bool}(hB:B=w.heap.size)(hz:∃ (b0:Nat) (c:Array Value) (T:TypeId) (fr:Nat×Nat),w.heap[b0]?=some (.cells c T fr)):∀ (m:Nat) (t:TypeId) (d:DataW H) (h:za) (xs:List AV) (h':za) (G:Gh),HR G B h w->zna P m t d h=some (xs,h') ->
  ∀ cs,(∃ n p,DataW.trod enc P w base (fun _=>true) held n t cs=some (d,p))->∃ G',HR G' B h' w/\G.ext G'/\VL G' xs cs
 |0,t,d,h,xs,h',G,hr,hl,cs,_=>by simp [zna] at hl
 |m+1,t,d,h,xs,h',G,hr,hl,cs,⟨n,p,ht⟩=>by
  have ih:=fun t d h xs h' G=>zfk (enc:=enc) (base:=base) (held:=held) hB hz m t d h xs h' G
  unfold zna at hl
  split at hl
  ·rename_i b hu
   cases hl
   obtain⟨b',rfl,e⟩:=DataW.trod_bool hu ht
   cases e
   exact⟨G,hr,Gh.zT _,.cons (.bool _) .nil⟩
  ·rename_i k0 k z hu
   cases hl
   obtain⟨b',rfl,e,_⟩:=DataW.trod_int hu ht
   cases e
   exact⟨G,hr,Gh.zT _,.cons (.int _ _) .nil⟩
  ·rename_i l hu
   cases hl
   obtain⟨b',rfl,e,_⟩:=DataW.trod_string hu ht
   cases e
   exact⟨G,hr,Gh.zT _,.cons (.str b'.data.toList) .nil⟩
  ·rename_i e hu
   cases hl
   rcases DataW.trod_pointer hu ht with⟨rfl,_⟩|⟨a,cs',y,n',rfl,rfl,he,_⟩
   ·exact⟨G,hr,Gh.zT _,.cons .zbf .nil⟩
   ·cases he
  ·rename_i e d' hu
   split at hl
   ·rename_i x xs h1 hl1
    cases hl
    rcases DataW.trod_pointer hu ht with⟨rfl,he⟩|⟨a,cs',y,n',rfl,rfl,he,hc,hy⟩
    ·cases he
    ·cases he
     obtain⟨G1,r1,l1,v1⟩:=ih e _ h _ _ G hr hl1 cs' ⟨n',_,hy⟩
     have hlen:=v1.length
     have hcl:=(wY hc).1
     simp only[List.length_cons] at hlen
     obtain⟨c,T,fr,q1,q2,q3,q4⟩:=wq hc (by omega)
     have hlt:a.block<B:=by rw[hB];exact(Array.getElem?_eq_some_iff.1 q1).1
     have hr2:=r1.zbA hlt q1 v1 q3 (by simp only[List.length_cons];omega)
     refine⟨_,hr2,l1.trans (Gh.xx _ _),.cons ?_ .nil⟩
     have hV:=V.ptr (G:=G1++[[⟨a.block,0,(x::xs).length,c.size,a.off⟩]]) (loc:=h1.length) (off:=0) (ver:=0) (lim:=xs.length+1) (r:=⟨a.block,0,(x::xs).length,c.size,a.off⟩) (by rw[<- r1.len,jz];rfl) (Nat.le_refl _) (Nat.le_refl _)
     obtain⟨ab,ao,as1⟩:=a
     simp only at q2
     subst q2
     simpa using hV
   ·cases hl
  ·rename_i e hu
   cases hl
   rcases DataW.trod_slice hu ht with⟨rfl,_⟩|⟨a,len,cap,el,rs,n',rfl,rfl,he,_⟩
   ·exact⟨G,hr,Gh.zT _,.cons .qj .nil⟩
   ·cases he
  ·rename_i e d0 l sp hu
   split at hl
   ·rename_i x xs h1 hl1
    cases hl
    rcases DataW.trod_slice hu ht with⟨rfl,he⟩|⟨a,len,cap,el,rs,n',rfl,rfl,he,hba,hlc,hcm,hel,hee,hsp,_⟩
    ·cases he
    ·simp only[Prod.mk.injEq,DataW.slice.injEq] at he
     obtain⟨⟨he1,he2⟩,_⟩:=he
     have hln:len=l.length+1:=by rw[<- hel,<- show(el.map (·.1)).length=el.length from List.length_map _,<- he1];rfl
     obtain⟨hrl,hrr⟩:=hsp rfl
     generalize hsz:P.cellsOf e=sz at *
     have hcell:∀ i,i<cap->∃ cs',w.cells? base (a.add (i*sz)) sz=some cs':=by
      intro i hi
      by_cases hil:i<len
      ·have h0:=hee i hil
       rw[List.getElem?_eq_getElem (by omega)] at h0
       obtain⟨cs',e1,_⟩:=Option.bind_eq_some_iff.1 h0
       exact⟨cs',e1⟩
      ·have h0:=hrr (i-len) (by omega)
       rw[List.getElem?_eq_getElem (by omega),show len+(i-len)=i from by omega] at h0
       obtain⟨cs',e1,_⟩:=Option.bind_eq_some_iff.1 h0
       exact⟨cs',e1⟩
     obtain⟨G1,r1,l1,v1⟩:=wK (Q:=fun(d:DataW H) cs=>∃ n q,DataW.trod enc P w base (fun _=>true) held n e cs=some (d,q)) (fun d h xs h' G hr hl cs hq=>ih e d h xs h' G hr hl cs hq) hr hl1
      (css:=(List.range len).map fun i=>(w.cells? base (a.add (i*sz)) sz).getD []) (by simp [hln]) (fun i d cs' e1 e2=>by
       rw[List.getElem?_map,Option.map_eq_some_iff] at e2
       obtain⟨j,e3,rfl⟩:=e2
       have hik:i<len:=by
        have:=(List.getElem?_eq_some_iff.1 e1).1
        simp only[List.length_cons] at this
        omega
       rw[List.getElem?_range hik] at e3
       cases e3
       rw[he1,List.getElem?_map,Option.map_eq_some_iff] at e1
       obtain⟨y,e6,e7⟩:=e1
       have h0:=hee i hik
       rw[e6] at h0
       obtain⟨cs2,f1,f2⟩:=Option.bind_eq_some_iff.1 h0
       rw[f1]
       exact⟨n',y.2,by rw[<- e7];exact f2⟩)
     have hvl:=v1.length
     have hpos:0<sz:=by
      rcases Nat.eq_zero_or_pos sz with h0|h0
      ·exfalso
       have:((List.range len).map fun i=>(w.cells? base (a.add (i*sz)) sz).getD []).flatten=[]:=by
        rw[List.flatten_eq_nil_iff]
        intro q hq
        obtain⟨i,hi,rfl⟩:=List.mem_map.1 hq
        obtain⟨cs',e1⟩:=hcell i (by have:=List.mem_range.1 hi;omega)
        rw[e1]
        have:=(wY e1).1
        exact List.eq_nil_of_length_eq_zero (by show cs'.length=0;omega)
       rw[this] at hvl
       simp at hvl
      ·exact h0
     obtain⟨c0,ec0⟩:=hcell 0 (by omega)
     obtain⟨c,T,fr,q1,q2,_,_⟩:=wq ec0 hpos
     rw[(jr a _).1] at q1
     have ha0:a.add (0*sz)=a:=by simp [Addr.add]
     rw[ha0] at q2
     have hrow:∀ i,i<cap->∀ cs',w.cells? base (a.add (i*sz)) sz=some cs'->cs'.length=sz/\(∀ (k:Nat) (u:Value),cs'[k]?=some u->c[k+(a.off+i*sz)]?=some u)/\sz+(a.off+i*sz)<=c.size:=by
      intro i hi cs' ec
      obtain⟨c2,T2,fr2,g1,_,g3,g4⟩:=wq ec hpos
      rw[(jr a _).1,q1] at g1
      cases g1
      rw[(jr a _).2] at g3 g4
      exact⟨(wY ec).1,g3,g4⟩
     obtain⟨fl1,fl2⟩:=zgr (c:=c) (sz:=sz) (o:=a.off) (css:=(List.range len).map fun i=>(w.cells? base (a.add (i*sz)) sz).getD []) (fun i cs' e2=>by
      rw[List.getElem?_map,Option.map_eq_some_iff] at e2
      obtain⟨j,e3,rfl⟩:=e2
      have hik:i<len:=by have:=(List.getElem?_eq_some_iff.1 e3).1;simpa using this
      rw[List.getElem?_range hik] at e3
      cases e3
      obtain⟨cs',ec⟩:=hcell i (by omega)
      rw[ec]
      obtain⟨k1,k2,_⟩:=hrow i (by omega) cs' ec
      exact⟨k1,k2⟩)
     rw[List.length_map,List.length_range] at fl1
     obtain⟨csl,ecl⟩:=hcell (cap-1) (by omega)
     obtain⟨_,_,hend⟩:=hrow (cap-1) (by omega) csl ecl
     have hcapsz:cap*sz=sz+(cap-1)*sz:=by
      obtain⟨k,rfl⟩:∃ k,cap=k+1:=⟨cap-1,by omega⟩
      rw[Nat.add_mul];simp;omega
     have hlensz:len*sz<=cap*sz:=Nat.mul_le_mul_right _ hlc
     have hlt:a.block<B:=by rw[hB];exact(Array.getElem?_eq_some_iff.1 q1).1
     have hxl:(x::xs).length=len*sz:=by rw[<- hvl,fl1]
     have hr2:=r1.zbA hlt q1 v1 fl2 (by omega)
     refine⟨_,hr2,l1.trans (Gh.xx _ _),.cons ?_ .nil⟩
     have hV:=V.sl (G:=G1++[[⟨a.block,0,(x::xs).length,c.size,a.off⟩]]) (loc:=h1.length) (off:=0) (len:=len) (sz:=sz) (ver:=0) (cap:=cap) (clip:=false) (r:=⟨a.block,0,(x::xs).length,c.size,a.off⟩) (by rw[<- r1.len,jz];rfl) (Nat.le_refl _) (by show 0+len*sz<=(x::xs).length;omega) hlc
      (by show 0+a.off-0+cap*sz<=c.size;omega) (fun e=>by cases e) (fun _=>by show(x::xs).length<=0+cap*sz;omega) hcm hpos
     obtain⟨ab,ao,as1⟩:=a
     simp only at q2
     subst q2
     rw[<- hln]
     simpa using hV
   ·cases hl
  ·rename_i e rs0 hu
   split at hl
   ·rename_i hpos
    cases hl
    have hpos:0<P.cellsOf e:=by simpa [Nat.blt_eq] using hpos
    rcases DataW.trod_slice hu ht with⟨rfl,he⟩|⟨a,len,cap,el,rs,n',rfl,rfl,he,hba,hlc,hcm,hel,hee,hsp,_⟩
    ·cases he
    ·simp only[Prod.mk.injEq,DataW.slice.injEq] at he
     obtain⟨⟨he1,he2⟩,_⟩:=he
     have hln:len=0:=by rw[<- hel,<- show(el.map (·.1)).length=el.length from List.length_map _,<- he1];rfl
     subst hln
     obtain⟨hrl,hrr⟩:=hsp rfl
     rcases Nat.eq_zero_or_pos cap with h0|h0
     ·subst h0
      obtain⟨b0,c,T,fr,hb0⟩:=hz
      have hr2:=hr.zbA (a:=⟨b0,0,none⟩) (xs:=[]) (cs:=[]) (by show b0<B;rw[hB];exact(Array.getElem?_eq_some_iff.1 hb0).1) hb0 .nil (fun j u hu=>by simp at hu) (by simp)
      refine⟨_,hr2,Gh.xx _ _,.cons ?_ .nil⟩
      exact V.sl0 (r:=⟨b0,0,0,c.size,0⟩) (by rw[<- hr.len,jz];rfl) (Nat.le_refl _) (Nat.le_refl _) (fun _=>Nat.le_refl _) hpos
     ·have hc:∀ i,i<cap->∃ cs',w.cells? base (a.add (i*P.cellsOf e)) (P.cellsOf e)=some cs':=by
       intro i hi
       have h0:=hrr i (by omega)
       rw[List.getElem?_eq_getElem (by omega),Nat.zero_add] at h0
       obtain⟨cs',e1,_⟩:=Option.bind_eq_some_iff.1 h0
       exact⟨cs',e1⟩
      obtain⟨c0,ec0⟩:=hc 0 h0
      obtain⟨c,T,fr,q1,q2,_,_⟩:=wq ec0 hpos
      have ha0:a.add (0*P.cellsOf e)=a:=by simp [Addr.add]
      rw[ha0] at q1 q2
      obtain⟨csl,ecl⟩:=hc (cap-1) (by omega)
      obtain⟨c2,T2,fr2,g1,_,_,g4⟩:=wq ecl hpos
      rw[(jr a _).1,q1] at g1
      cases g1
      rw[(jr a _).2] at g4
      have hcapsz:cap*P.cellsOf e=P.cellsOf e+(cap-1)*P.cellsOf e:=by
       obtain⟨k,rfl⟩:∃ k,cap=k+1:=⟨cap-1,by omega⟩
       rw[Nat.add_mul];simp;omega
      have hlt:a.block<B:=by rw[hB];exact(Array.getElem?_eq_some_iff.1 q1).1
      have hr2:=hr.zbA (a:=a) (xs:=[]) (cs:=[]) hlt q1 .nil (fun j u hu=>by simp at hu) (by simp only[List.length_nil];omega)
      refine⟨_,hr2,Gh.xx _ _,.cons ?_ .nil⟩
      have hV:=V.sl (G:=G++[[⟨a.block,0,0,c.size,a.off⟩]]) (loc:=h.length) (off:=0) (len:=0) (sz:=P.cellsOf e) (ver:=0) (cap:=cap) (clip:=false) (r:=⟨a.block,0,0,c.size,a.off⟩) (by rw[<- hr.len,jz];rfl) (Nat.le_refl _) (by simp) hlc
       (by show 0+a.off-0+cap*P.cellsOf e<=c.size;omega) (fun e=>by cases e) (fun _=>Nat.zero_le _) hcm hpos
      obtain⟨ab,ao,as1⟩:=a
      simp only at q2
      subst q2
      simpa using hV
   ·cases hl
  ·rename_i fs ds hu
   split at hl
   ·rename_i hq
    obtain⟨ys,n',rfl,he,hlen,hyl,hy⟩:=DataW.trod_struct hu ht
    cases he
    have hfl:=zbj (cs:=cs) hq.1 hlen (Nat.zero_le _)
    rw[List.drop_zero] at hfl
    obtain⟨G1,r1,l1,v1⟩:=wK (Q:=fun(p:Field×DataW H) cs=>∃ n q,DataW.trod enc P w base (fun _=>true) held n p.1.type cs=some (p.2,q)) (fun d h xs h' G hr hl cs hq=>ih d.1.type d.2 h xs h' G hr hl cs hq) hr hl
     (css:=fs.toList.map fun f=>(cs.drop f.offset).take (P.cellsOf f.type)) (by simp [hyl]) (fun i d cs' e1 e2=>by
      rw[List.getElem?_map,Option.map_eq_some_iff] at e2
      obtain⟨f,e3,rfl⟩:=e2
      rw[List.getElem?_zip_eq_some] at e1
      rw[e3] at e1
      obtain⟨e4,e5⟩:=e1
      cases e4
      rw[List.getElem?_map,Option.map_eq_some_iff] at e5
      obtain⟨y,e6,e7⟩:=e5
      have:=hy i d.1 (by simpa using e3)
      rw[e6] at this
      exact⟨n',y.2,by rw[this,<- e7]⟩)
    rw[hfl] at v1
    exact⟨G1,r1,l1,v1⟩
   ·cases hl
  ·rename_i k e ds hu
   split at hl
   ·rename_i hq
    obtain⟨ys,n',rfl,he,hlen,hyl,hy⟩:=trod_array hu ht
    simp only at he
    cases he
    have hfl:=zdw (cs:=cs) (sz:=P.cellsOf e) (k:=k) (o:=0) (by rw[hlen,hq.1];omega)
    simp only[Nat.zero_add,List.drop_zero] at hfl
    obtain⟨G1,r1,l1,v1⟩:=wK (Q:=fun(d:DataW H) cs=>∃ n q,DataW.trod enc P w base (fun _=>true) held n e cs=some (d,q)) (fun d h xs h' G hr hl cs hq=>ih e d h xs h' G hr hl cs hq) hr hl
     (css:=(List.range k).map fun i=>(cs.drop (i*P.cellsOf e)).take (P.cellsOf e)) (by simp [hyl]) (fun i d cs' e1 e2=>by
      rw[List.getElem?_map,Option.map_eq_some_iff] at e1 e2
      obtain⟨y,e6,e7⟩:=e1
      obtain⟨j,e3,rfl⟩:=e2
      have hik:i<k:=by rw[<- hyl];exact(List.getElem?_eq_some_iff.1 e6).1
      rw[List.getElem?_range hik] at e3
      cases e3
      have:=hy i hik
      rw[e6] at this
      exact⟨n',y.2,by rw[this,<- e7]⟩)
    rw[hfl] at v1
    exact⟨G1,r1,l1,v1⟩
   ·cases hl
  ·rename_i ms hu
   cases hl
   have:=zdv hu ht
   subst this
   exact⟨G,hr,Gh.zT _,.cons .xQ .nil⟩
  ·rename_i ms nm d hu
   cases hl
   obtain⟨u,v,rfl⟩:=zdc hu ht
   exact⟨G,hr,Gh.zT _,.cons (.opq u v) .nil⟩
  ·cases hl
theorem HR.zpW{G:Gh}{h:za}{loc:Nat}{blk blk':Blk}{vs:List Ver}(hr:HR G B h w)(hl:h[loc]?=some blk)(ho:blk.own=false)(ho':blk'.own=false)(hg:G[loc]?=some vs)(hB:zje G w blk' vs):HR G B (h.set loc blk') w:=by
 have hlt:=Arr.lt hl
 refine⟨by rw[Arr.length_set];exact hr.len,fun l b vs' h1 h2=>?_,hr.lt,fun l v r b hat h1=>?_,hr.apart,hr.base⟩
 ·rw[Arr.zw] at h1
  split at h1
  ·rename_i e
   subst e
   cases h1
   rw[hg] at h2;cases h2
   exact hB
  ·exact hr.blk l b vs' h1 h2
 ·rw[Arr.zw] at h1
  split at h1
  ·rename_i e
   subst e
   cases h1
   have:=hr.own _ _ _ _ hat hl
   rw[ho] at this
   rw[ho']
   exact this
  ·exact hr.own _ _ _ _ hat h1
end
def zbk(P:Program)(m:Nat):List (String×DataW Unit)->za->Option za
 | [],h=>some h
 |(n,d)::r,h=>match P.globalNamed n with
  |some g=>match P.globals[g]? with
   |some v=>match zna P m v.type d h with
    |some (xs,h1)=>match h1[g]? with
     |some .dead=>if Nat.beq xs.length (P.cellsOf v.type)=true then zbk P m r (h1.set g (.lay xs)) else none
     |_=>none
    |none=>zbk P m r h
   |none=>none
  |none=>none
def zbb(P:Program):Gh:=(List.range P.globals.size).map fun g=>match P.globals[g]? with
 |some v=>[⟨g,0,P.cellsOf v.type,P.cellsOf v.type,0⟩]
 |none=>[]
section
variable {P:Program} {B:Nat} {w:World}
theorem kz(hB:B=w.heap.size)(hz:∃ (b0:Nat) (c:Array Value) (T:TypeId) (fr:Nat×Nat),w.heap[b0]?=some (.cells c T fr))(m:Nat):∀ {l:List (String×DataW Unit)} {ps:List MemPlace} {h h':za} {G:Gh},DataW.LaidVars P w l ps->zbk P m l h=some h'->HR G B h w->(zbb P).ext G->∃ G',HR G' B h' w/\G.ext G'
 | [],ps,h,h',G,hp,hl,hr,hx=>by cases hl;exact⟨G,hr,Gh.zT _⟩
 |(n,d)::l,ps,h,h',G,hp,hl,hr,hx=>by
  obtain⟨g,t,cs,fuel,p,q,e1,e2,e3,e4,e5,_⟩:=hp
  unfold zbk at hl
  rw[e1] at hl
  simp only at hl
  obtain⟨v,ev,rfl⟩:=Option.map_eq_some_iff.1 e2
  rw[ev] at hl
  simp only at hl
  split at hl
  ·rename_i xs h1 hd
   split at hl
   ·rename_i hdead
    split at hl
    ·rename_i hlen
     have hlen:=Nat.eq_of_beq_eq_true hlen
     obtain⟨G1,r1,x1,v1⟩:=zfk hB hz m v.type d h xs h1 G hr hd cs.toList ⟨fuel,p,e4⟩
     have hgl:g<P.globals.size:=(Array.getElem?_eq_some_iff.1 ev).1
     have hgv:(zbb P)[g]?=some [⟨g,0,P.cellsOf v.type,P.cellsOf v.type,0⟩]:=by
      unfold zbb
      rw[List.getElem?_map,List.getElem?_range hgl]
      simp only[Option.map_some,ev]
     have hgG:=(hx.trans x1).get hgv
     have hcl:=v1.length
     rw[Array.length_toList] at hcl
     obtain⟨c,T,fr,hw,hc⟩:∃ c T fr,w.heap[g]?=some (.cells c T fr)/\c=cs:=by
      unfold World.var? at e3
      rw[e1] at e3
      simp only[Option.bind_some] at e3
      split at e3
      ·rename_i c T fr hb;cases e3;exact⟨_,T,fr,hb,rfl⟩
      ·cases e3
     subst hc
     have hr2:=r1.zpW (blk':=.lay xs) hdead rfl rfl hgG (.inr ⟨_,rfl,rfl,hlen.symm,c,T,fr,hw,by show c.size=P.cellsOf v.type;omega,by show P.cellsOf v.type+0<=P.cellsOf v.type;omega,fun p' hp'=>by
      have hp2:p'<xs.length:=by rw[hlen];exact hp'
      obtain⟨u,f1,f2⟩:=v1.get (List.getElem?_eq_getElem hp2)
      exact⟨_,u,List.getElem?_eq_getElem hp2,by rw[<- Array.getElem?_toList];exact f1,f2⟩⟩)
     obtain⟨G2,r2,x2⟩:=kz hB hz m e5 hl hr2 (hx.trans x1)
     exact⟨G2,r2,x1.trans x2⟩
    ·cases hl
   ·cases hl
  ·exact kz hB hz m e5 hl hr hx
theorem zlw{g:Nat}{vs:List Ver}(h:(zbb P)[g]?=some vs):g<P.globals.size/\∃ v,P.globals[g]?=some v/\vs=[⟨g,0,P.cellsOf v.type,P.cellsOf v.type,0⟩]:=by
 have hg:g<P.globals.size:=by have:=(List.getElem?_eq_some_iff.1 h).1;simpa [zbb] using this
 have hv:P.globals[g]?=some P.globals[g]:=Array.getElem?_eq_getElem hg
 unfold zbb at h
 rw[List.getElem?_map,List.getElem?_range hg] at h
 simp only[Option.map_some,hv,Option.some.injEq] at h
 exact⟨hg,_,hv,h.symm⟩
theorem zeU{g v:Nat}{r:Ver}(h:(zbb P).at g v=some r):g<P.globals.size/\r.b=g:=by
 unfold Gh.at at h
 cases hg:(zbb P)[g]? with
 |none=>rw[hg] at h;cases h
 |some vs=>
  rw[hg] at h
  obtain⟨h1,x,_,rfl⟩:=zlw hg
  refine⟨h1,?_⟩
  cases v with
  |zero=>simp at h;rw[<- h]
  |succ v=>simp at h
theorem zir(hn:P.globals.size<=w.heap.size):HR (zbb P) w.heap.size (Arr.of (List.replicate P.globals.size .dead)) w:=by
 refine⟨by rw[Arr.zjX];simp [zbb],fun loc b vs hb hg=>?_,fun loc v r hat=>?_,fun loc v r b hat hb=>?_,fun l1 l2 v1 v2 r1 r2 h1 _ hB _=>?_,Nat.le_refl _⟩
 ·rw[Arr.zjH,List.getElem?_replicate] at hb
  split at hb
  ·cases hb;trivial
  ·cases hb
 ·have:=zeU hat;omega
 ·rw[Arr.zjH,List.getElem?_replicate] at hb
  have:=zeU hat
  split at hb
  ·cases hb
   exact Iff.intro (fun e=>by cases e) (fun e=>by omega)
  ·cases hb
 ·have:=zeU h1;omega
theorem zdI:∀ {laid:List (String×DataW Unit)} {ps:List MemPlace},DataW.LaidVars P w laid ps->laid.isEmpty=false->∃ (b0:Nat) (c:Array Value) (T:TypeId) (fr:Nat×Nat),w.heap[b0]?=some (.cells c T fr)
 | [],_,_,he=>by cases he
 |(n,d)::l,ps,hp,_=>by
  obtain⟨g,t,cs,fuel,p,q,e1,e2,e3,e4,e5,_⟩:=hp
  unfold World.var? at e3
  rw[e1] at e3
  simp only[Option.bind_some] at e3
  split at e3
  ·rename_i c T fr hb;exact⟨g,_,T,fr,hb⟩
  ·cases e3
end
structure zmW(W W':World):Prop where
 os:W'.os=W.os
 output:W'.output=W.output
 size:W.heap.size<=W'.heap.size
 low:∀ b,b<W.heap.size->W'.heap[b]?=W.heap[b]?
theorem zmW.kept{W W':World}(h:zmW W W')(may:MemPlace->Prop):W.keptBut W' may:=by
 refine⟨h.os,h.output,fun i hi=>?_⟩
 rw[h.low i hi]
 cases W.heap[i]? with
 |none=>rfl
 |some o=>cases o<;>first|exact⟨rfl,rfl,rfl,fun _ _=>rfl⟩|exact .inr ⟨rfl,rfl⟩|rfl
theorem zmW.same{W W':World}(h:zmW W W')(p:MemPlace)(hp:p.block<W.heap.size):W.sameAt W' p:=by
 cases p with
 |cell b off=>show W'.cell? _=W.cell? _;unfold World.cell?;rw[h.low b hp]
 |map b=>exact h.low b hp
theorem zjx{G:Gh}{B:Nat}{W W':World}{v:AV}{h':za}{e:Ending}(hB:B=W.heap.size)(hr:∀ loc v r,G.at loc v=some r->r.b<B)(hc:zi9 G B W (.ret v h') e W'):zmW W W'/\∃ G' u,V G' v u/\e=.returned u:=by
 obtain⟨G',hS,u,hv,rfl⟩:=hc
 exact⟨⟨hS.fr.os,hS.fr.output,hS.fr.size,fun b hb=>hS.fr.low b hb fun loc v r hat hBr e=>by have:=hr _ _ _ hat;omega⟩,G',u,hv,rfl⟩
section
variable {H:Type} {enc:TypeId×Value->H} {P:Program}
theorem zb0{W W':World}(hg:zmW W W'){base:Nat}{sp:Nat->Bool}{held:Bool}:∀ {ts:List TypeId} {vs:List Value} {ds:List (DataW H)} {ps:List MemPlace},
  DataW.TrodAll enc P W base sp held ts vs ds ps->(∀ p ∈ ps,p.block<W.heap.size)->DataW.TrodAll enc P W' base sp held ts vs ds ps
 | [],[],[],ps,h,_=>h
 |t::ts,v::vs,d::ds,ps,h,hp=>by
  obtain⟨p,q,⟨n,h1⟩,h2,rfl⟩:=h
  exact⟨p,q,⟨n,DataW.trod_carry n _ _ _ h1 fun x hx=>hg.same x (hp x (List.mem_append_left _ hx))⟩,zb0 hg h2 (fun x hx=>hp x (List.mem_append_right _ hx)),rfl⟩
 | [],[],_::_,_,h,_=>h.elim
 | [],_::_,_,_,h,_=>h.elim
 |_::_,[],_,_,h,_=>h.elim
 |_::_,_::_,[],_,h,_=>h.elim
theorem zku{fn:Func}{s:ChangeSpec}{W W':World}{args:Array Value}{ds gs:List (DataW H)}{before:List MemPlace}{tb:TypeId}
  (hlo:laidOutB P=true) (hmr:mapsRowed P=true) (hfull:((List.range P.types.size).all fun t=>match P.underlying t with|some (.slice e)=>decide (0<P.cellsOf e)|_=>true)=true)
  (hts:(fn.params.toList.all fun t=>decide (t<P.types.size))=true) (hr:fn.resultTypes=#[tb]) (hb:P.underlying tb=some .bool) (hv:s.vars=[]) (hs:s.fn H ds={ results:=[.lit (.bool true)],args:=ds })
  (hW:DataW.Whole enc P fn.params.toList s.vars false W args.toList ds gs before) (hg:zmW W W'):
  s.post enc P fn false true false false W args (.bool true) W':=by
 have hW0:=hW
 have hlt:=hW.lt
 obtain⟨p,q,hA,hV,rfl,hz,hn⟩:=hW
 rw[hv] at hV
 obtain⟨rfl,rfl⟩:gs=[]/\q=[]:=by
  cases gs with
  |nil=>exact⟨rfl,hV⟩
  |cons=>exact hV.elim
 have hT:∀ t ∈ fn.params.toList,t<P.types.size:=fun t ht=>of_decide_eq_true (List.all_eq_true.1 hts t ht)
 have hA':DataW.TrodAll enc P W 0 (fun b=>decide (b<W.heap.size)) true fn.params.toList args.toList ds p:=
  DataW.TrodAll.respare (kids_rows hlo hmr) (slices_full_of P hfull) hT hA fun x hx=>by simpa using hlt x (List.mem_append_left _ hx)
 refine⟨ds,[],p++[],[],p,[],hW0,?_,?_,?_,hg.kept _,fun e=>by cases e⟩
 ·rw[List.append_nil,hs,hr]
  exact⟨[],[],⟨1,by simp [DataW.trod,hb,Value.cells]⟩,rfl,rfl⟩
 ·rw[List.append_nil,hs]
  exact zb0 hg hA' fun x hx=>hlt x (List.mem_append_left _ hx)
 ·rw[List.append_nil,hs,hv];rfl
end
section
variable {P:Program} {hgl:za} {Gg:Gh} {W0 w:World}
end
def zkz(v:Bool):Option CR->Bool
 |some (.ret (.bool b) _)=>b==v
 |_=>false
theorem ziK{v:Bool}{o:Option CR}(h:zkz v o=true):∃ h',o=some (.ret (.bool v) h'):=by
 unfold zkz at h
 split at h
 ·rename_i b h';exact⟨h',by rw[eq_of_beq h]⟩
 ·cases h
section
variable {H:Type} {enc:TypeId×Value->H} {P:Program} {W:World}
theorem ziW{P:Program}{w:World}{g:Nat}{t:TypeId}{zero:Array Value}{k:IntKind}(h:w.ShapedOpen P)(hg:g<P.globals.size)
  (h0:((begin P (fun _ _=>0) default).world.heap[g]?).bind Obj.row?=some (zero,t)) (hz:zero.size=1)
  (hb:P.buildable t=true) (hc:P.cellTypes P.depth t=some [t]) (hu:P.underlying t=some (.int k)):
  ∃ m c T fr,w.heap[g]?=some (.cells c T fr)/\c.size=1/\c[0]?=some (.int k m)/\k.min<=m/\m<=k.max:=by
 obtain⟨cs,hh,hs,hr⟩:=h.1 g zero t hg h0
 obtain⟨ts,hts,_,hall⟩:=hr hb
 rw[hc] at hts
 cases hts
 have h1:0<cs.size:=by omega
 obtain⟨u,hu',hok⟩:=hall 0 cs[0] (by simp [h1])
 have:u=t:=by simpa using hu'.symm
 subst this
 unfold Cell.ok at hok
 rw[hu] at hok
 cases hv:cs[0]<;>rw[hv] at hok<;>simp at hok
 case int k' n=>
  obtain⟨rfl,h2,h3⟩:=hok
  exact⟨n,cs,_,_,hh,by omega,by rw[Array.getElem?_eq_getElem h1,hv],h2,h3⟩
theorem zhe{P:Program}{w:World}(h:w.ShapedOpen P)(h0:((((begin P (fun _ _=>0) default).world.heap[P.globals.size-1]?).bind Obj.row?).isSome&&decide (0<P.globals.size))=true):P.globals.size<=w.heap.size:=by
 simp only[Bool.and_eq_true,decide_eq_true_eq] at h0
 obtain⟨⟨zero,t⟩,h1⟩:=Option.isSome_iff_exists.1 h0.1
 obtain⟨cs,hh,_⟩:=h.1 (P.globals.size-1) zero t (by omega) h1
 have:=(Array.getElem?_eq_some_iff.1 hh).1
 omega
theorem zjU{P:Program}{w:World}{laid:List (String×DataW Unit)}{m:Nat}{hgl:za}(hn:P.globals.size<=w.heap.size)(hm:laidMet P laid w)(hne:laid.isEmpty=false)(hl:zbk P m laid (Arr.of (List.replicate P.globals.size .dead))=some hgl)
  {g:Nat} {c:Array Value} {T:TypeId} {fr:Nat×Nat} {z lo hi:Int} (hd:hgl[g]?=some .dead) (hgt:((P.globals[g]?).map fun v=>P.cellsOf v.type)=some 1) (hc:w.heap[g]?=some (.cells c T fr)) (hcs:c.size=1) (hc0:c[0]?=some (.int .i64 z)) (h1:lo<=z) (h2:z<=hi):
  ∃ Gg,Laid P (hgl.set g (.lay [.iv lo hi])) Gg w.heap.size w:=by
 obtain⟨ps,hv,_⟩:=hm
 obtain⟨G,hr,hx⟩:=kz rfl (zdI hv hne) m hv hl (zir hn) (Gh.zT _)
 obtain⟨v,ev,ecells⟩:=Option.map_eq_some_iff.1 hgt
 have hgl':g<P.globals.size:=(Array.getElem?_eq_some_iff.1 ev).1
 have hgv:(zbb P)[g]?=some [⟨g,0,P.cellsOf v.type,P.cellsOf v.type,0⟩]:=by
  unfold zbb
  rw[List.getElem?_map,List.getElem?_range hgl']
  simp only[Option.map_some,ev]
 have hr2:=hr.zpW (blk':=.lay [.iv lo hi]) hd rfl rfl (hx.get hgv) (.inr ⟨_,rfl,rfl,by simp [ecells],c,T,fr,hc,by simp [ecells,hcs],by simp [ecells],fun p hp=>by
  have hp0:p=0:=by
   have:p<P.cellsOf v.type:=hp
   omega
  subst hp0
  exact⟨_,_,rfl,by simpa using hc0,.iv h1 h2⟩⟩)
 refine⟨G,hr2,fun loc v r hat=>hr2.lt _ _ _ hat,fun g hg=>?_⟩
 have hv:P.globals[g]?=some P.globals[g]:=Array.getElem?_eq_getElem hg
 have hgv:(zbb P)[g]?=some [⟨g,0,P.cellsOf (P.globals[g]).type,P.cellsOf (P.globals[g]).type,0⟩]:=by
  unfold zbb
  rw[List.getElem?_map,List.getElem?_range hg]
  simp only[Option.map_some,hv]
 exact⟨_,Gh.kk (hx.get hgv) rfl,rfl,rfl,rfl⟩
theorem zok{P:Program}{W:World}{r:Reach}{base:Nat}{t:TypeId}{cs:Array Value}(ha:zeV P t=some false)(h:Value.okWide P W r base t (.agg cs)):False:=by
 unfold Value.okWide at h
 unfold zeV at ha
 cases hu:P.underlying t with
 |none=>rw[hu] at ha;cases ha
 |some d=>
  rw[hu] at ha h
  cases d<;>first|(cases ha;done)|(simp [Cell.okWide,Cell.ok,hu] at h;done)
theorem zoU{P:Program}{W:World}{r:Reach}{base:Nat}{t:TypeId}{v:Value}(ha:zeV P t=some true)(h:Value.okWide P W r base t v):∃ l:List Value,v=.agg (List.toArray l):=by
 unfold zeV at ha
 unfold Value.okWide at h
 cases hu:P.underlying t with
 |none=>rw[hu] at ha;cases ha
 |some d=>
  rw[hu] at ha h
  cases d<;>first|(cases ha;done)|(obtain⟨cs,rfl,_⟩:=h;exact⟨cs.toList,by simp⟩)
theorem val_one{P:Program}{W:World}{r:Reach}{base:Nat}{t:TypeId}{v x:Value}(ha:zeV P t=some false)(h:Value.okWide P W r base t v)(hc:v.cells.toList=[x]):v=x:=by
 cases v with
 |agg cs=>exact(zok ha h).elim
 |_=>simpa [Value.cells] using hc
theorem zeS{t:TypeId}{ts:List TypeId}{vs:List Value}{ds:List (DataW H)}{ps:List MemPlace}(h:DataW.TrodAll enc P W 0 (fun _=>true) true (t::ts) vs ds ps):
  ∃ v vs' d ds' p q,vs=v::vs'/\ds=d::ds'/\(∃ n,DataW.trod enc P W 0 (fun _=>true) true n t v.cells.toList=some (d,p))/\DataW.TrodAll enc P W 0 (fun _=>true) true ts vs' ds' q:=by
 match vs,ds,h with
 |v::vs',d::ds',h=>obtain⟨p,q,h1,h2,_⟩:=h;exact⟨v,vs',d,ds',p,q,rfl,rfl,h1,h2⟩
theorem zh4{vs:List Value}{ds:List (DataW H)}{ps:List MemPlace}(h:DataW.TrodAll enc P W 0 (fun _=>true) true [] vs ds ps):vs=[]/\ds=[]:=by
 match vs,ds,h with
 | [],[],_=>exact⟨rfl,rfl⟩
end
end Go.Mx
namespace Go.Sx
open Go Go.Gx Go.Mx
variable [qE]
@[reducible] def zbG{α β γ:Type}(o:α ⊕ β)(f:α->γ)(g:β->γ):γ:=match o with
 |.inl a=>f a
 |.inr b=>g b
def zrA:Lf->Option Bool
 |.b x=>some x
 |_=>none
def zrC:Lf->Option Int
 |.i x=>some x
 |_=>none
def zrB:Lf->Option UInt8
 |.c x=>some x
 |_=>none
def zrF:Lf->Option (List UInt8)
 |.s x=>some x
 |_=>none
def zrE:Lf->Option Nat
 |.n x=>some x
 |_=>none
def zrD(u:U):Lf->Option (List (El u))
 |.l v x=>qX v u x
 |_=>none
def zrk(u:U):Lf->Option (El u)
 |.e v x=>if h:v=u then some (h ▸ x) else none
 |_=>none
inductive LK where
 |b|i|c|s|n|l (u:U)|e (u:U)
@[reducible] def LK.T:LK->Type
 |.b=>Bool|.i=>Int|.c=>UInt8|.s=>List UInt8|.n=>Nat|.l u=>List (El u)|.e u=>El u
def LK.g:(k:LK)->Lf->Option k.T
 |.b=>zrA|.i=>zrC|.c=>zrB|.s=>zrF|.n=>zrE|.l u=>zrD u|.e u=>zrk u
def LK.m:(k:LK)->k.T->Lf
 |.b=>.b|.i=>.i|.c=>.c|.s=>.s|.n=>.n|.l u=>.l u|.e u=>.e u
@[reducible] def LTs:List LK->Type
 | []=>Unit
 |k::ks=>k.T×LTs ks
def eL:(ks:List LK)->LTs ks->List Lf
 | [],_=>[]
 |k::ks,(x,y)=>k.m x::eL ks y
def dL:(ks:List LK)->List Lf->Option (LTs ks)
 | [],[]=>some ()
 |k::ks,w::ws=>match k.g w,dL ks ws with
  |some a,some b=>some (a,b)
  |_,_=>none
 |_,_=>none
theorem LK.g_s:∀ {k:LK} {w:Lf} {x:k.T},k.g w=some x->w=k.m x
 |.b,w,x,h=>by cases w<;>first|(cases h;rfl)|cases h
 |.i,w,x,h=>by cases w<;>first|(cases h;rfl)|cases h
 |.c,w,x,h=>by cases w<;>first|(cases h;rfl)|cases h
 |.s,w,x,h=>by cases w<;>first|(cases h;rfl)|cases h
 |.n,w,x,h=>by cases w<;>first|(cases h;rfl)|cases h
 |.l u,w,x,h=>by
  cases w<;>first|(cases h;done)|skip
  obtain⟨e,h2⟩:=zq h
  subst e;cases h2;rfl
 |.e u,w,x,h=>by
  cases w<;>first|(cases h;done)|skip
  simp only[LK.g,zrk] at h
  split at h
  ·rename_i e;subst e;cases h;rfl
  ·cases h
theorem zqI:∀ {ks:List LK} {ls:List Lf} {x:LTs ks},dL ks ls=some x->ls=eL ks x
 | [],[],x,h=>rfl
 | [],_::_,x,h=>by cases h
 |_::_,[],x,h=>by cases h
 |k::ks,w::ws,x,h=>by
  simp only[dL] at h
  split at h
  ·rename_i a b ha hb
   cases h
   rw[LK.g_s ha,zqI hb];rfl
  ·cases h
@[reducible] def Cv(O:Type):List (List LK)->Type
 | []=>Unit
 |ks::r=>(LTs ks->O)×Cv O r
def dO{O:Type}:(oks:List (List LK))->Cv O oks->Nat->List Lf->Option O
 | [],_,_,_=>none
 |ks::_,(f,_),0,os=>(dL ks os).map f
 |_::r,(_,fs),k+1,os=>dO r fs k os
def zqr{O:Type}(kc:KC O):(oks:List (List LK))->Cv O oks->Nat->Prop
 | [],_,_=>True
 |ks::r,(f,fs),j=>(∀ x R κ,kc R (f x) κ=κ j (eL ks x))/\zqr kc r fs (j+1)
theorem zrj{O:Type}{kc:KC O}:∀ {oks:List (List LK)} {cv:Cv O oks} {j:Nat},zqr kc oks cv j->∀ k os o,dO oks cv k os=some o->∀ R κ,kc R o κ=κ (j+k) os
 | [],_,_,_,k,os,o,h=>by cases h
 |ks::r,(f,fs),j,⟨h1,h2⟩,0,os,o,h=>fun R κ=>by
  simp only[dO,Option.map_eq_some_iff] at h
  obtain⟨x,hx,rfl⟩:=h
  rw[h1,zqI hx];rfl
 |ks::r,(f,fs),j,⟨h1,h2⟩,k+1,os,o,h=>fun R κ=>by
  rw[zrj h2 k os o h R κ,Nat.add_right_comm,Nat.add_assoc]
def lsT{O:Type}(ks:List LK)(F:LTs ks->Option O)(kc:KC O):LS:=fun R ls κ=>((dL ks ls).bind F).bind fun o=>kc R o κ
def zlG:Code->List Nat->Code
 |c,[]=>c
 |.seq a _,0::p=>zlG a p
 |.seq _ b,_::p=>zlG b p
 |.cond _ a _,0::p=>zlG a p
 |.cond _ _ b,_::p=>zlG b p
 |.block _ c,_::p=>zlG c p
 |.loop c,_::p=>zlG c p
 |.rangeFunc _ _ a _,0::p=>zlG a p
 |.rangeFunc _ _ _ b,_::p=>zlG b p
 |_,_=>.skip
def roundOf(fn:Func)(p:List Nat):Code:=match fn.body with
 |some c=>match zlG c p with
  |.loop b=>b
  |_=>.skip
 |none=>.skip
def zm2{α:Type 1}:Option (List α)->Option (List α)->Option (List α)
 |some a,some b=>some (a++b)
 |_,_=>none
def zL(P:Program):Pl->Code->Option (List (Code×LF))
 |.auto,_=>some []
 |.two a b,c=>match c with
  |.seq x y=>zm2 (zL P a x) (zL P b y)
  |.cond _ x y=>zm2 (zL P a x) (zL P b y)
  |.loop x=>zm2 (zL P a x) (zL P b (.loop x))
  |_=>none
 |.one a,c=>match c with
  |.block _ x=>zL P a x
  |.loop x=>zL P a x
  |_=>none
 |.cal _ f a rest,c=>match P.funcs[f]? with
  |some fn=>match fn.body with
   |some b=>zm2 (zL P a b) (zL P rest c)
   |none=>none
  |none=>none
 |.by_ g,c=>match c with
  |.loop x=>some [(.loop x,g)]
  |.region id ops true=>some [(.region id ops true,g)]
  |.rangeFunc f ps a b=>some [(.rangeFunc f ps a b,g)]
  |_=>none
 |.yl _ id a b rest,c=>match qE.at_ id with
  |some (_,asg,body)=>zm2 (zL P a asg) (zm2 (zL P b body) (zL P rest c))
  |none=>zL P rest c
section
variable {P:Program} {gl:GL} {hk:qc}
def zaa(P:Program)(gl:GL)(hk:qc):List (Code×LF)->Prop
 | []=>True
 |(c,g)::l=>zjb P gl hk c g/\zaa P gl hk l
theorem zaa.app:∀ {a b:List (Code×LF)},zaa P gl hk (a++b)->zaa P gl hk a/\zaa P gl hk b
 | [],b,h=>⟨trivial,h⟩
 |_::_,b,⟨h1,h2⟩=>⟨⟨h1,(zaa.app h2).1⟩,(zaa.app h2).2⟩
theorem wX{α:Type 1}{a b:Option (List α)}{l:List α}(h:zm2 a b=some l):∃ x y,a=some x/\b=some y/\l=x++y:=by
 unfold zm2 at h
 split at h
 ·cases h;exact⟨_,_,rfl,rfl,rfl⟩
 ·cases h
theorem qA:∀ {pl:Pl} {c:Code} {ls:List (Code×LF)},zL P pl c=some ls->zaa P gl hk ls->ji P gl hk pl c
 |.auto,_,_,_,_=>trivial
 |.two a b,c,ls,h,hs=>by
  unfold zL at h
  split at h
  ·obtain⟨x,y,h1,h2,rfl⟩:=wX h
   exact⟨qA h1 (zaa.app hs).1,qA h2 (zaa.app hs).2⟩
  ·obtain⟨x,y,h1,h2,rfl⟩:=wX h
   exact⟨qA h1 (zaa.app hs).1,qA h2 (zaa.app hs).2⟩
  ·obtain⟨x,y,h1,h2,rfl⟩:=wX h
   exact⟨qA h1 (zaa.app hs).1,qA h2 (zaa.app hs).2⟩
  ·cases h
 |.one a,c,ls,h,hs=>by
  unfold zL at h
  split at h
  ·exact qA (pl:=a) h hs
  ·exact qA (pl:=a) h hs
  ·cases h
 |.cal i f a rest,c,ls,h,hs=>by
  unfold zL at h
  split at h
  ·rename_i fn hf
   split at h
   ·rename_i b hb
    obtain⟨x,y,h1,h2,rfl⟩:=wX h
    refine⟨fun fn' b' hf' hb'=>?_,qA h2 (zaa.app hs).2⟩
    rw[hf] at hf';cases hf'
    rw[hb] at hb';cases hb'
    exact qA h1 (zaa.app hs).1
   ·cases h
  ·cases h
 |.by_ g,c,ls,h,hs=>by
  unfold zL at h
  split at h
  ·cases h;exact hs.1
  ·cases h;exact hs.1
  ·cases h;exact hs.1
  ·cases h
 |.yl _ id a b rest,c,ls,h,hs=>by
  unfold zL at h
  split at h
  ·rename_i ps asg body hc
   obtain⟨x,y,h1,h2,rfl⟩:=wX h
   obtain⟨y1,y2,h3,h4,rfl⟩:=wX h2
   refine⟨fun ps' asg' body' hc'=>?_,qA h4 (zaa.app (zaa.app hs).2).2⟩
   rw[hc] at hc';cases hc'
   exact⟨qA h1 (zaa.app hs).1,qA h3 (zaa.app (zaa.app hs).2).1⟩
  ·rename_i hc
   exact⟨fun ps asg body hc'=>(by rw[hc] at hc';cases hc'),qA h hs⟩
theorem zkt{f:FuncId}{fn:Func}{pl:Pl}{ls:List (Code×LF)}(hf:P.funcs[f]?=some fn)(h:(match fn.body with|some b=>zL P pl b|none=>none)=some ls)(hs:zaa P gl hk ls):∀ fn b,P.funcs[f]?=some fn->fn.body=some b->ji P gl hk pl b:=by
 intro fn' b hf' hb
 rw[hf] at hf';cases hf'
 rw[hb] at h
 exact qA h hs
theorem zaa.nil:zaa P gl hk []:=trivial
theorem zaa.cons{c:Code}{g:LF}{l:List (Code×LF)}(h:zjb P gl hk c g)(t:zaa P gl hk l):zaa P gl hk ((c,g)::l):=⟨h,t⟩
def zi0:List (FuncId×CF)->CT
 | [],_=>none
 |(f,g)::l,k=>match Nat.beq k f with
  |true=>some g
  |false=>zi0 l k
def zlB(P:Program)(gl:GL)(hk:qc):List (FuncId×CF)->Prop
 | []=>True
 |(f,g)::l=>zd2 P gl hk f g/\zlB P gl hk l
theorem zdY:∀ {l:List (FuncId×CF)},zlB P gl hk l->∀ f g,zi0 l f=some g->zd2 P gl hk f g
 | [],_,f,g,h=>by cases h
 |(f0,g0)::l,⟨h1,h2⟩,f,g,h=>by
  unfold zi0 at h
  split at h
  ·rename_i he
   cases h
   rw[Nat.eq_of_beq_eq_true he];exact h1
  ·exact zdY h2 f g h
def znU:List (FuncId×CF)->FuncId->Bool
 | [],_=>false
 |(f,_)::l,k=>Nat.beq k f||znU l k
theorem zfg:∀ {l:List (FuncId×CF)} {k:FuncId},znU l k=true->∃ g,zi0 l k=some g
 | [],k,h=>by cases h
 |(f,g)::l,k,h=>by
  unfold zi0
  cases hb:Nat.beq k f with
  |true=>exact⟨g,rfl⟩
  |false=>simp only[znU,hb,Bool.false_or] at h;exact zfg h
structure zmX(P:Program)(hk:qc)(al:List FuncId):Prop where
 h:∀ f g,hk f=some g->f ∉ al->(P.funcs[f]?).bind (·.body)=none
theorem zqH{l:List (FuncId×CF)}{al:List FuncId}(hh:zmX P hk al)(ha:(al.all fun f=>znU l f)=true)(hl:zlB P gl hk l):zmV P gl (zi0 l) hk:=
 ⟨zdY hl,fun f g hf hc=>hh.h f g hf fun hm=>by
  obtain⟨g',h⟩:=zfg (List.all_eq_true.1 ha f hm)
  rw[hc] at h;cases h⟩
abbrev FT:=List (FuncId×CF)
section
variable {T:FT} {al:List FuncId} (hh:zmX P hk al) (ha:(al.all fun f=>znU T f)=true) (hT:zlB P gl hk T)
include hh ha hT
theorem zqX{n:Nat}(pl:Pl){c:Code}{ls:List (Code×LF)}(h:zL P pl c=some ls)(hs:zaa P gl hk ls){pre:List (Nat×U)}{p:PS}{outs:List (SX×PS)}{ks:List LK}{oks:List (List LK)}{O:Type}(G:Nat->LTs ks->Option O)(cv:Cv O oks){kc:KC O}
  (h0:∀ x,G 0 x=none) (hr:∀ m x,round P gl (zi0 T) n pl p outs c (eL ks x) (fun ls=>(dL ks ls).bind (G m)) (dO oks cv)=G (m+1) x) (ho:zqr kc oks cv 0) (N:Nat):zjb P gl hk (.loop c) (qW pre p outs (lsT ks (G N) kc)):=
 ziv (zqH hh ha hT) (qA h hs) (G:=fun m ls=>(dL ks ls).bind (G m)) (od:=dO oks cv)
  (fun ls=>by cases dL ks ls with
   |none=>rfl
   |some x=>exact h0 x)
  (fun m ls o h=>by
   cases hd:dL ks ls with
   |none=>rw[hd] at h;cases h
   |some x=>
    rw[hd] at h
    rw[zqI hd,hr];exact h)
  (fun k os o h R κ=>by rw[zrj ho k os o h R κ,Nat.zero_add]) N
theorem fnG{n:Nat}{f:FuncId}{us rs:List U}{F:El (zba us)->Option (El (zba rs))}(pl:Pl){fn:Func}(hf:P.funcs[f]?=some fn){ls:List (Code×LF)}(h:(match fn.body with|some b=>zL P pl b|none=>none)=some ls)(hs:zaa P gl hk ls)
  (hF:∀ x,zaB P gl (zi0 T) n pl f (wk us x) [] (zeA rs)=F x):zlB P gl hk ((f,zbe us rs F)::T):=⟨zjv (zqH hh ha hT) (zkt hf h hs) hF,hT⟩
end
section
variable {al:List FuncId} (hh:zmX P hk al) {T:FT} (hT:zlB P gl hk T)
include hh hT
theorem zap(pl:Pl){c:Code}{ls:List (Code×LF)}(hs:zaa P gl hk ls){pre:List (Nat×U)}{p:PS}{outs:List (SX×PS)}(ks:List LK)(oks:List (List LK)){O:Type}(G:Nat->LTs ks->Option O)(cv:Cv O oks){kc:KC O}(N:Nat)
  (ha:(al.all fun f=>znU T f)=true:=by rfl) (n:Nat:=1500) (h:zL P pl c=some ls:=by kernel_rfl) (h0:∀ x,G 0 x=none:=by intro x;rfl) (hr:∀ m x,round P gl (zi0 T) n pl p outs c (eL ks x) (fun ls=>(dL ks ls).bind (G m)) (dO oks cv)=G (m+1) x:=by intro m x;kernel_rfl)
  (ho:zqr kc oks cv 0:=by repeat' (first|exact trivial|refine⟨fun _ _ _=>rfl,?_⟩)):zjb P gl hk (.loop c) (qW pre p outs (lsT ks (G N) kc)):=zqX hh ha hT pl h hs G cv h0 hr ho N
theorem fnA{f:FuncId}{us rs:List U}{F:El (zba us)->Option (El (zba rs))}(pl:Pl){fn:Func}(hf:P.funcs[f]?=some fn){ls:List (Code×LF)}(hs:zaa P gl hk ls)
  (ha:(al.all fun f=>znU T f)=true:=by rfl) (n:Nat:=1500) (h:(match fn.body with|some b=>zL P pl b|none=>none)=some ls:=by kernel_rfl)
  (hF:∀ x,zaB P gl (zi0 T) n pl f (wk us x) [] (zeA rs)=F x:=by intro x;kernel_rfl):zlB P gl hk ((f,zbe us rs F)::T):=fnG hh ha hT pl hf h hs hF
end
def dr:Nat->List PV->List PV
 |0,l=>l
 |n+1,l=>.drop::dr n l
theorem w6{f:FuncId}{k:XK}:∀ {tab:List (FuncId×XK)},tab.lookup f=some k->(f,k) ∈ tab
 | [],h=>by cases h
 |(g,k')::l,h=>by
  unfold List.lookup at h
  split at h
  ·rename_i he
   cases h
   rw[eq_of_beq he];exact List.mem_cons_self
  ·exact List.mem_cons_of_mem _ (w6 h)
theorem zlS{tab:List (FuncId×XK)}(h:(tab.all fun p=>((P.funcs[p.1]?).bind (·.body)).isNone)=true):zmX P (zgd tab) []:=by
 refine⟨fun f g hf _=>?_⟩
 unfold zgd at hf
 cases hl:tab.lookup f with
 |none=>rw[hl] at hf;cases hf
 |some k=>
  have:=List.all_eq_true.1 h _ (w6 hl)
  simpa using this
theorem ku{hk:qc}{al:List FuncId}(h:zmX P hk al)(f:FuncId)(g:List AV->za->Option CR):zmX P (zl hk f g) (f::al):=by
 refine⟨fun k g' hk' hn=>?_⟩
 unfold zl at hk'
 simp only[List.mem_cons,not_or] at hn
 cases hb:Nat.beq k f with
 |true=>exact absurd (Nat.eq_of_beq_eq_true hb) hn.1
 |false=>rw[hb] at hk';exact h.h k g' hk' hn.2
def zlz:List AV->za->Option CR:=fun args h=>match args with
 | []=>some (.ret (.bool true) h)
 |_=>none
theorem zlA{hk:qc}{f:FuncId}(h:hk f=some zlz):zd2 P gl hk f (zbe [] [.bool] fun _=>some (true,())):=by
 intro R args κ r X margs hc hargs hr hg
 unfold zbe at hc
 cases args with
 |nil=>
  simp only[qY,Option.bind] at hc
  cases(show margs=[] from hargs)
  refine⟨_,X,.ret (.bool true) X.h,hc,.refl hr,⟨rfl,rfl,rfl⟩,Ev.all fun n=>?_⟩
  simp only[qy,h,zlz]
 |cons=>simp [qY] at hc
end
def Wf:(u:U)->El u->Prop
 |.bool,_=>True
 |.int k,n=>k.min<=n/\(n:Int)<=k.max
 |.u8,_=>True
 |.str,l=>(l:List UInt8).length<=reachBytes
 |.sl u,l=>(l:List (El u)).length<=reachBytes/\∀ x ∈ (l:List (El u)),Wf u x
 |.slc u,l=>(l:List (El u)).length<=reachBytes/\∀ x ∈ (l:List (El u)),Wf u x
 |.pair u v,x=>Wf u x.1/\Wf v x.2
 |.unit,_=>True
def zlI(P:Program):Nat->TypeId->Bool
 |0,_=>false
 |d+1,t=>match P.underlying t with
  |some .bool=>Nat.beq (P.cellsOf t) 1
  |some (.int _)=>Nat.beq (P.cellsOf t) 1
  |some .string=>Nat.beq (P.cellsOf t) 1
  |some (.slice e)=>Nat.beq (P.cellsOf t) 1&&Nat.blt 0 (P.cellsOf e)&&(Nat.blt 0 (P.bytesOf e)&&zlI P d e)
  |some (.struct fs)=>flush P fs.toList 0 (P.cellsOf t)&&fs.toList.all fun f=>zlI P d f.type
  |_=>false
theorem wR{α:Type}[Inhabited α]{a:Arr α}{l m:List α}:(a++l)++m=a++(l++m):=by
 induction l generalizing a with
 |nil=>rfl
 |cons x l ih=>exact ih (a:=a.push x)
section
variable {P:Program} {B:Nat} {w:World} {H:Type} {enc:TypeId×Value->H} {base:Nat} {held:Bool}
abbrev PhA(h:za):Nat->Prop:=fun m=>m<h.length
theorem RE.app{h:za}{u:U}{x:El u}{cs:List AV}(q:RE h (PhA h) u x cs)(E:List Blk):RE (h++E) (PhA (h++E)) u x cs:=
 q.le (fun m hm=>Arr.zO hm) fun m hm=>by show m<(h++E).length;rw[Arr.zv];have:m<h.length:=hm;omega
theorem VL.ext{G G':Gh}(h:G.ext G'){l:List AV}{us:List Value}(q:VL G l us):VL G' l us:=q.le h.le
def znC(P:Program)(t:TypeId)(d:DataW H):Prop:=∀ n ∈ d.weights P t,n<=reachBytes
theorem zny{e:TypeId}:∀ {l:List (DataW H)} {d:DataW H},d ∈ l->∀ n ∈ d.weights P e,n ∈ DataW.weightsAll P e l
 |d0::l,d,hd,n,hn=>by
  unfold DataW.weightsAll
  rcases List.mem_cons.1 hd with rfl|hd
  ·exact List.mem_append_left _ hn
  ·exact List.mem_append_right _ (zny hd n hn)
theorem zly:∀ {ts:List TypeId} {ds:List (DataW H)} {i:Nat} {t:TypeId} {d:DataW H},ts[i]?=some t->ds[i]?=some d->∀ n ∈ d.weights P t,n ∈ DataW.weightsEach P ts ds
 | [],_,i,t,d,h,_,_,_=>by simp at h
 |_::_,[],i,t,d,_,h,_,_=>by simp at h
 |t0::ts,d0::ds,i,t,d,h1,h2,n,hn=>by
  unfold DataW.weightsEach
  cases i with
  |zero=>simp at h1 h2;subst h1;subst h2;exact List.mem_append_left _ hn
  |succ i=>exact List.mem_append_right _ (zly (by simpa using h1) (by simpa using h2) n hn)
theorem znz{us:List TypeId}{gs:List (DataW H)}{n:Nat}:∀ {ts:List TypeId} {ds:List (DataW H)},n ∈ DataW.weightsEach P ts ds->n ∈ DataW.weightsEach P (ts++us) (ds++gs)
 | [],_,h=>by unfold DataW.weightsEach at h;cases h
 |_::_,[],h=>by unfold DataW.weightsEach at h;cases h
 |t::ts,d::ds,h=>by
  rw[List.cons_append,List.cons_append]
  unfold DataW.weightsEach at h |-
  rcases List.mem_append.1 h with h|h
  ·exact List.mem_append_left _ h
  ·exact List.mem_append_right _ (znz h)
def Lays(P:Program)(B:Nat)(w:World)(enc:TypeId×Value->H)(base:Nat)(held:Bool)(u:U)(Q:List Value->Prop):Prop:=
 ∀ (G:Gh) (h:za) (cs:List Value),HR G B h w->Q cs->∃ (G':Gh) (E:List Blk) (x:El u) (avs:List AV),HR G' B (h++E) w/\G.ext G'/\VL G' avs cs/\RE (h++E) (PhA (h++E)) u x avs/\Wf u x
theorem zcT{d:Nat}(ih:∀ (t:TypeId) (u:U),uOf P d t=some u->zlI P d t=true->Lays P B w enc base held u fun cs=>∃ n d' p,DataW.trod enc P w base (fun _=>true) held n t cs=some (d',p)/\znC P t d'):
  ∀ (fs:List Field) (u:U),jD (uOf P d) fs=some u->(fs.all fun f=>zlI P d f.type)=true->∀ (G:Gh) (h:za) (css:List (List Value)),HR G B h w->css.length=fs.length ->
   (∀ (i:Nat) (f:Field) (cs:List Value),fs[i]?=some f->css[i]?=some cs->∃ n d' p,DataW.trod enc P w base (fun _=>true) held n f.type cs=some (d',p)/\znC P f.type d') ->
   ∃ (G':Gh) (E:List Blk) (x:El u) (avs:List AV),HR G' B (h++E) w/\G.ext G'/\VL G' avs css.flatten/\RE (h++E) (PhA (h++E)) u x avs/\Wf u x
 | [],u,hu,hf,G,h,css,hr,hl,hc=>by
  cases hu
  have:css=[]:=List.length_eq_zero_iff.1 hl
  subst this
  exact⟨G,[],(),[],by rw[Arr.jE];exact hr,Gh.zT _,.nil,rfl,trivial⟩
 | [f],u,hu,hf,G,h,css,hr,hl,hc=>by
  match css,hl with
  | [cs],_=>
   simp only[List.all_cons,List.all_nil,Bool.and_true] at hf
   unfold jD at hu
   split at hu
   ·cases hu
   ·obtain⟨G',E,x,avs,h1,h2,h3,h4,h5⟩:=ih _ _ hu hf G h cs hr (hc 0 f cs rfl rfl)
    exact⟨G',E,x,avs,h1,h2,by simpa using h3,h4,h5⟩
 |f::f2::fs,u,hu,hf,G,h,css,hr,hl,hc=>by
  match css,hl with
  |cs::css,hl=>
   simp only[List.all_cons,Bool.and_eq_true] at hf
   unfold jD at hu
   split at hu
   ·rename_i u1 u2 _ e1 e2
    cases hu
    obtain⟨G1,E1,x,avs,h1,h2,h3,h4,h5⟩:=ih _ _ e1 hf.1 G h cs hr (hc 0 f cs rfl rfl)
    obtain⟨G2,E2,y,bvs,k1,k2,k3,k4,k5⟩:=zcT ih (f2::fs) u2 e2 (by simp only[List.all_cons,Bool.and_eq_true];exact hf.2) G1 (h++E1) css h1 (by simpa using hl) fun i f' cs' q1 q2=>hc (i+1) f' cs' (by simpa using q1) (by simpa using q2)
    refine⟨G2,E1++E2,(x,y),avs++bvs,?_,h2.trans k2,?_,?_,h5,k5⟩
    ·rw[<- wR];exact k1
    ·rw[List.flatten_cons];exact(VL.ext k2 h3).append k3
    ·rw[<- wR]
     exact⟨avs,bvs,rfl,RE.app h4 E2,k4⟩
   ·cases hu
theorem zfn{e:TypeId}{u:U}(hsz:0<u.sz)(ih:Lays P B w enc base held u fun cs=>∃ n d' p,DataW.trod enc P w base (fun _=>true) held n e cs=some (d',p)/\znC P e d'):
  ∀ (css:List (List Value)) (G:Gh) (h:za),HR G B h w->(∀ (i:Nat) (cs:List Value),css[i]?=some cs->∃ n d' p,DataW.trod enc P w base (fun _=>true) held n e cs=some (d',p)/\znC P e d') ->
   ∃ (G':Gh) (E:List Blk) (l:List (El u)) (avs:List AV),HR G' B (h++E) w/\G.ext G'/\VL G' avs css.flatten/\RCs (h++E) (PhA (h++E)) u l avs/\l.length=css.length/\∀ x ∈ l,Wf u x
 | [],G,h,hr,hc=>⟨G,[],[],[],by rw[Arr.jE];exact hr,Gh.zT _,.nil,⟨by simp,fun i e hi=>by simp at hi⟩,rfl,by simp⟩
 |cs::css,G,h,hr,hc=>by
  obtain⟨G1,E1,x,avs,h1,h2,h3,h4,h5⟩:=ih G h cs hr (hc 0 cs rfl)
  obtain⟨G2,E2,l,bvs,k1,k2,k3,k4,k5,k6⟩:=zfn hsz ih css G1 (h++E1) h1 fun i cs' q=>hc (i+1) cs' (by simpa using q)
  have hal:=h4.length
  refine⟨G2,E1++E2,x::l,avs++bvs,by rw[<- wR];exact k1,h2.trans k2,by rw[List.flatten_cons];exact(VL.ext k2 h3).append k3,⟨?_,fun i e hi=>?_⟩,by simp [k5],fun y hy=>?_⟩
  ·rw[List.length_append,hal,k4.1,List.length_cons,Nat.add_mul];omega
  ·rw[<- wR]
   cases i with
   |zero=>
    simp at hi;subst hi
    have:part u.sz (avs++bvs) 0=avs:=by unfold part;rw[Nat.zero_mul,List.drop_zero,<- hal,List.take_left]
    rw[this];exact RE.app h4 E2
   |succ i=>
    have:part u.sz (avs++bvs) (i+1)=part u.sz bvs i:=by
     unfold part
     rw[show(i+1)*u.sz=avs.length+i*u.sz by rw[hal,Nat.add_mul];omega,<- List.drop_drop,List.drop_left]
    rw[this];exact k4.2 i e (by simpa using hi)
  ·rcases List.mem_cons.1 hy with rfl|hy
   ·exact h5
   ·exact k6 y hy
theorem zlt:∀ {d:Nat} {t:TypeId} {u:U},uOf P d t=some u->zlI P d t=true->u.sz=P.cellsOf t
 |0,t,u,h,_=>by cases h
 |d+1,t,u,h,hf=>by
  unfold uOf at h
  unfold zlI at hf
  split at h
  ·rename_i hu;rw[hu] at hf;cases h;exact(zb hf).symm
  ·rename_i hu;rw[hu] at hf;cases h;exact(zb hf).symm
  ·rename_i hu;rw[hu] at hf;cases h;exact(zb hf).symm
  ·rename_i hu;rw[hu] at hf;cases h;exact(zb hf).symm
  ·rename_i hu;rw[hu] at hf
   simp only[Bool.and_eq_true] at hf
   cases hq:uOf P d _ with
   |none=>rw[hq] at h;cases h
   |some v=>rw[hq] at h;cases h;exact(zb hf.1.1).symm
  ·rename_i fs hu;rw[hu] at hf
   simp only[Bool.and_eq_true] at hf
   have key:∀ (l:List Field) (u:U) (o n:Nat),jD (uOf P d) l=some u->(l.all fun f=>zlI P d f.type)=true->flush P l o n=true->o+u.sz=n:=by
    intro l
    induction l with
    |nil=>intro u o n h1 h2 h3;cases h1;have:=Nat.eq_of_beq_eq_true h3;simpa [U.sz] using this
    |cons f l ih=>
     intro u o n h1 h2 h3
     simp only[List.all_cons,Bool.and_eq_true] at h2
     simp only[flush,Bool.and_eq_true] at h3
     cases l with
     |nil=>
      unfold jD at h1
      split at h1
      ·cases h1
      ·have e1:=zlt h1 h2.1
       have:=Nat.eq_of_beq_eq_true h3.2
       omega
     |cons f2 l=>
      unfold jD at h1
      split at h1
      ·rename_i u1 u2 _ e1 e2
       cases h1
       have q1:=zlt e1 h2.1
       have q2:=ih _ _ _ e2 h2.2 h3.2
       simp only[U.sz];omega
      ·cases h1
   have:=key _ _ _ _ h hf.2 hf.1
   omega
  ·cases h
theorem zcR(hB:B=w.heap.size)(hz:∃ (b0:Nat) (c:Array Value) (T:TypeId) (fr:Nat×Nat),w.heap[b0]?=some (.cells c T fr)):∀ (m:Nat) (t:TypeId) (u:U),uOf P m t=some u->zlI P m t=true ->
  Lays P B w enc base held u fun cs=>∃ n d' p,DataW.trod enc P w base (fun _=>true) held n t cs=some (d',p)/\znC P t d'
 |0,t,u,hu,_=>by cases hu
 |m+1,t,u,hu,hf=>by
  intro G h cs hr ⟨n,d,p,ht,hwt⟩
  unfold uOf at hu
  unfold zlI at hf
  split at hu
  ·rename_i hund;rw[hund] at hf;cases hu
   obtain⟨b',rfl,e⟩:=DataW.trod_bool hund ht
   exact⟨G,[],b',[.bool b'],by rw[Arr.jE];exact hr,Gh.zT _,.cons (.bool _) .nil,rfl,trivial⟩
  ·rename_i hund;rw[hund] at hf;cases hu
   obtain⟨b,rfl,_,hw⟩:=DataW.trod_int hund ht
   have hb:0<=b/\b<=255:=by simpa [Lit.wf,IntKind.min,IntKind.max,IntKind.signed,IntKind.bits] using hw
   refine⟨G,[],UInt8.ofNat b.toNat,[.int .u8 b],by rw[Arr.jE];exact hr,Gh.zT _,.cons (.int _ _) .nil,?_,trivial⟩
   show[AV.int .u8 b]=[AV.int .u8 _]
   congr 2
   simp only[UInt8.toNat_ofNat']
   omega
  ·rename_i hund;rw[hund] at hf;cases hu
   obtain⟨b,rfl,_,hw⟩:=DataW.trod_int hund ht
   exact⟨G,[],b,[.int _ b],by rw[Arr.jE];exact hr,Gh.zT _,.cons (.int _ _) .nil,rfl,show _/\_ by simpa [Lit.wf] using hw⟩
  ·rename_i hund;rw[hund] at hf;cases hu
   obtain⟨b,rfl,hdx,hw⟩:=DataW.trod_string hund ht
   cases hdx
   exact⟨G,[],b.data.toList,[.str b.data.toList],by rw[Arr.jE];exact hr,Gh.zT _,.cons (.str _) .nil,rfl,hwt _ (by simp [DataW.weights])⟩
  ·rename_i e hund;rw[hund] at hf
   simp only[Bool.and_eq_true] at hf
   obtain⟨⟨_,hpos⟩,hbyt,hfe⟩:=hf
   have hbyt:=qg hbyt
   have hpos:=qg hpos
   cases hq:uOf P m e with
   |none=>rw[hq] at hu;cases hu
   |some v=>
    rw[hq] at hu;cases hu
    have hsz:=zlt hq hfe
    have ih:=zcR hB hz m e v hq hfe
    rcases DataW.trod_slice hund ht with⟨rfl,_⟩|⟨a,len,cap,el,rs,n',rfl,rfl,he,hba,hlc,hcm,hel,hee,hsp,_⟩
    ·exact⟨G,[],[],[.qj],by rw[Arr.jE];exact hr,Gh.zT _,.cons .qj .nil,⟨_,rfl,.inl ⟨rfl,rfl⟩⟩,by show 0<=reachBytes;omega,by simp⟩
    ·obtain⟨hrl,hrr⟩:=hsp rfl
     cases he
     have hwt:∀ n ∈ ((el.map (·.1)).length+(rs.map (·.1)).length)*P.bytesOf e::(DataW.weightsAll P e (el.map (·.1))++DataW.weightsAll P e (rs.map (·.1))),n<=reachBytes:=by
      unfold znC DataW.weights at hwt
      rw[hund] at hwt
      exact hwt
     have hwl:len<=reachBytes:=by
      have h1:=hwt _ List.mem_cons_self
      rw[List.length_map,hel,List.length_map] at h1
      have h2:(len+rs.length)*1<=(len+rs.length)*P.bytesOf e:=Nat.mul_le_mul_left _ hbyt
      omega
     have hcell:∀ i,i<cap->∃ cs',w.cells? base (a.add (i*P.cellsOf e)) (P.cellsOf e)=some cs':=by
      intro i hi
      by_cases hil:i<len
      ·have h0:=hee i hil
       rw[List.getElem?_eq_getElem (by omega)] at h0
       obtain⟨cs',e1,_⟩:=Option.bind_eq_some_iff.1 h0
       exact⟨cs',e1⟩
      ·have h0:=hrr (i-len) (by omega)
       rw[List.getElem?_eq_getElem (by omega),show len+(i-len)=i from by omega] at h0
       obtain⟨cs',e1,_⟩:=Option.bind_eq_some_iff.1 h0
       exact⟨cs',e1⟩
     rcases Nat.eq_zero_or_pos cap with hc0|hc0
     ·have hl0:len=0:=by omega
      subst hc0;subst hl0
      obtain⟨b0,c,T,fr,hb0⟩:=hz
      have hr2:=hr.zbA (a:=⟨b0,0,none⟩) (xs:=[]) (cs:=[]) (by show b0<B;rw[hB];exact(Array.getElem?_eq_some_iff.1 hb0).1) hb0 .nil (fun j u hu=>by simp at hu) (by simp)
      refine⟨_,[.lay []],[],[.sl h.length 0 0 v.sz 0 false],hr2,Gh.xx _ _,.cons ?_ .nil,⟨_,rfl,.inr ⟨h.length,0,0,false,[],rfl,.inl rfl,?_,?_,by simp,fun i e hi=>by simp at hi⟩⟩,by show 0<=reachBytes;omega,by simp⟩
      ·exact V.sl0 (r:=⟨b0,0,0,c.size,0⟩) (by rw[<- hr.len,jz];rfl) (Nat.le_refl _) (Nat.le_refl _) (fun _=>Nat.le_refl _) (by omega)
      ·show h.length<(h++[Blk.lay []]).length;rw[Arr.zv];simp
      ·unfold rd
       rw[Arr.zt (Nat.le_refl _),Nat.sub_self]
       simp
     ·obtain⟨c0,ec0⟩:=hcell 0 hc0
      obtain⟨c,T,fr,q1,q2,_,_⟩:=wq ec0 hpos
      rw[(jr a _).1] at q1
      have ha0:a.add (0*P.cellsOf e)=a:=by simp [Addr.add]
      rw[ha0] at q2
      have hrow:∀ i,i<cap->∀ cs',w.cells? base (a.add (i*P.cellsOf e)) (P.cellsOf e)=some cs'->cs'.length=P.cellsOf e/\(∀ (k:Nat) (u:Value),cs'[k]?=some u->c[k+(a.off+i*P.cellsOf e)]?=some u)/\P.cellsOf e+(a.off+i*P.cellsOf e)<=c.size:=by
       intro i hi cs' ec
       obtain⟨c2,T2,fr2,g1,_,g3,g4⟩:=wq ec hpos
       rw[(jr a _).1,q1] at g1
       cases g1
       rw[(jr a _).2] at g3 g4
       exact⟨(wY ec).1,g3,g4⟩
      have hget:∀ (i:Nat) (cs':List Value),((List.range len).map fun i=>(w.cells? base (a.add (i*P.cellsOf e)) (P.cellsOf e)).getD [])[i]?=some cs'->i<len/\w.cells? base (a.add (i*P.cellsOf e)) (P.cellsOf e)=some cs':=by
       intro i cs' e2
       rw[List.getElem?_map,Option.map_eq_some_iff] at e2
       obtain⟨j,e3,rfl⟩:=e2
       have hik:i<len:=by have:=(List.getElem?_eq_some_iff.1 e3).1;simpa using this
       rw[List.getElem?_range hik] at e3
       cases e3
       obtain⟨cs',ec⟩:=hcell i (by omega)
       exact⟨hik,by rw[ec];rfl⟩
      obtain⟨G1,E1,l,avs,r1,l1,v1,c1,len1,wf1⟩:=zfn (by omega) ih ((List.range len).map fun i=>(w.cells? base (a.add (i*P.cellsOf e)) (P.cellsOf e)).getD []) G h hr fun i cs' e2=>by
       obtain⟨hik,ec⟩:=hget i cs' e2
       have h0:=hee i hik
       rw[ec,List.getElem?_eq_getElem (by omega)] at h0
       exact⟨n',_,_,h0,fun n hn=>hwt n (List.mem_cons_of_mem _ (List.mem_append_left _ (zny (List.mem_map.2 ⟨_,List.getElem_mem _,rfl⟩) n hn)))⟩
      obtain⟨fl1,fl2⟩:=zgr (c:=c) (sz:=P.cellsOf e) (o:=a.off) (css:=(List.range len).map fun i=>(w.cells? base (a.add (i*P.cellsOf e)) (P.cellsOf e)).getD []) fun i cs' e2=>by
       obtain⟨hik,ec⟩:=hget i cs' e2
       obtain⟨k1,k2,_⟩:=hrow i (by omega) cs' ec
       exact⟨k1,k2⟩
      have len1:l.length=len:=by rw[len1];simp
      rw[List.length_map,List.length_range] at fl1
      obtain⟨csl,ecl⟩:=hcell (cap-1) (by omega)
      obtain⟨_,_,hend⟩:=hrow (cap-1) (by omega) csl ecl
      have hcapsz:cap*P.cellsOf e=P.cellsOf e+(cap-1)*P.cellsOf e:=by
       obtain⟨k,rfl⟩:∃ k,cap=k+1:=⟨cap-1,by omega⟩
       rw[Nat.add_mul];simp;omega
      have hlensz:len*P.cellsOf e<=cap*P.cellsOf e:=Nat.mul_le_mul_right _ hlc
      have hlt:a.block<B:=by rw[hB];exact(Array.getElem?_eq_some_iff.1 q1).1
      have hxl:avs.length=len*P.cellsOf e:=by rw[<- v1.length,fl1]
      have hr2:=r1.zbA hlt q1 v1 fl2 (by omega)
      refine⟨_,E1++[.lay avs],l,[.sl (h++E1).length 0 len v.sz 0 false],by rw[<- wR];exact hr2,l1.trans (Gh.xx _ _),.cons ?_ .nil,⟨_,rfl,.inr ⟨(h++E1).length,0,0,false,avs,by rw[len1],.inl rfl,?_,?_,?_,fun i e hi=>?_⟩⟩,by rw[len1];exact hwl,wf1⟩
      ·have hV:=V.sl (G:=G1++[[⟨a.block,0,avs.length,c.size,a.off⟩]]) (loc:=(h++E1).length) (off:=0) (len:=len) (sz:=v.sz) (ver:=0) (cap:=cap) (clip:=false) (r:=⟨a.block,0,avs.length,c.size,a.off⟩) (by rw[<- r1.len,jz];rfl) (Nat.le_refl _) (by show 0+len*v.sz<=avs.length;rw[hsz];omega) hlc
        (by show 0+a.off-0+cap*v.sz<=c.size;rw[hsz];omega) (fun e=>by cases e) (fun _=>by show avs.length<=0+cap*v.sz;rw[hsz];omega) hcm (by omega)
       obtain⟨ab,ao,as1⟩:=a
       simp only at q2
       subst q2
       simpa using hV
      ·show(h++E1).length<(h++(E1++[Blk.lay avs])).length
       rw[<- wR,Arr.zv (a:=h++E1)];simp
      ·unfold rd
       rw[<- wR,Arr.zt (Nat.le_refl _),Nat.sub_self]
       have:l.length*v.sz=avs.length:=by rw[len1,hxl,hsz]
       simp [this]
      ·rw[len1,hsz,hxl]
      ·rw[<- wR];exact RE.app (c1.2 i e hi) _
  ·rename_i fs hund;rw[hund] at hf
   simp only[Bool.and_eq_true] at hf
   obtain⟨ys,n',rfl,he,hlen,hyl,hy⟩:=DataW.trod_struct hund ht
   cases he
   have hwt:∀ n ∈ DataW.weightsEach P (fs.toList.map (·.type)) (ys.map (·.1)),n<=reachBytes:=by
    unfold znC DataW.weights at hwt
    rw[hund] at hwt
    exact hwt
   have hflat:=zbj (cs:=cs) hf.1 hlen (Nat.zero_le _)
   rw[List.drop_zero] at hflat
   have:=zcT (fun t u h1 h2=>zcR hB hz m t u h1 h2) fs.toList u hu hf.2 G h (fs.toList.map fun f=>(cs.drop f.offset).take (P.cellsOf f.type)) hr (by simp) fun i f cs' e1 e2=>by
    rw[List.getElem?_map,Option.map_eq_some_iff] at e2
    obtain⟨f2,g2,rfl⟩:=e2
    rw[e1] at g2;cases g2
    have h0:=hy i f (by simpa using e1)
    have hi:i<ys.length:=by rw[hyl];have:=(List.getElem?_eq_some_iff.1 e1).1;simpa using this
    rw[List.getElem?_eq_getElem hi] at h0
    exact⟨n',_,_,h0,fun n hn=>hwt n (zly (by rw[List.getElem?_map,e1];rfl) (by rw[List.getElem?_map,List.getElem?_eq_getElem hi];rfl) n hn)⟩
   rw[hflat] at this
   exact this
  ·cases hu
end
theorem zjk{P:Program}{W:World}{base:Nat}{t:TypeId}{v:Value}{u:U}{d:Nat}(hu:uOf P (d+1) t=some u)(ha:zeV P t=some u.agg)(hv:Value.okWide P W .any base t v){G:Gh}{avs:List AV}(hx:VL G avs v.cells.toList):
  (u.agg=true->V G (.agg avs) v)/\(u.agg=false->∀ x,avs=[x]->V G x v):=by
 refine⟨fun h=>?_,fun h x hxs=>?_⟩
 ·rw[h] at ha
  obtain⟨l,rfl⟩:=zoU ha hv
  exact .agg (by simpa [Value.cells] using hx)
 ·rw[h] at ha
  subst hxs
  cases hc:v.cells.toList with
  |nil=>rw[hc] at hx;cases hx
  |cons y ys=>
   rw[hc] at hx
   cases hx with
   |cons h1 h2=>
    cases h2
    rw[val_one ha hv hc];exact h1
def zqJ(n:Nat)(h:za)(keep:List Nat):GL:=(List.range n).map fun g=>match keep.contains g with
 |true=>match h[g]? with
  |some (.lay cs)=>zng cs
  |_=>none
 |false=>none
theorem zpK{P:Program}{gl:GL}{n:Nat}{hgl:za}{keep:List Nat}(h:zqJ n hgl keep=gl)(hn:n<=P.globals.size)(E:List Blk):RGl P gl ⟨hgl++E,PhA (hgl++E),[],[]⟩:=by
 intro g cs hg
 rw[<- h] at hg
 unfold zqJ at hg
 rw[List.getElem?_map] at hg
 cases hr:(List.range n)[g]? with
 |none=>rw[hr] at hg;cases hg
 |some g'=>
  obtain⟨hlt,e⟩:=List.getElem?_eq_some_iff.1 hr
  rw[List.getElem_range] at e
  subst e
  rw[List.length_range] at hlt
  rw[hr] at hg
  simp only[Option.map_some,Option.some.injEq] at hg
  split at hg
  ·split at hg
   ·rename_i cells hrow
    have hl:=Arr.lt hrow
    refine⟨by omega,?_,cells,?_,zbx hg⟩
    ·show g<(hgl++E).length;rw[Arr.zv];omega
    ·exact(Arr.zO hl).trans hrow
   ·cases hg
  ·cases hg
def zhA(P:Program):List TypeId->List U->Bool
 | [],[]=>true
 |t::ts,u::us=>decide (uOf P 6 t=some u)&&zlI P 6 t&&decide (zeV P t=some u.agg)&&zhA P ts us
 |_,_=>false
theorem U.zql{u:U}(h:u.agg=false):u.sz=1:=by cases u<;>first|rfl|cases h
theorem zfm{P:Program}{B:Nat}{w:World}{H:Type}{enc:TypeId×Value->H}{base:Nat}(hB:B=w.heap.size)(hz:∃ (b0:Nat) (c:Array Value) (T:TypeId) (fr:Nat×Nat),w.heap[b0]?=some (.cells c T fr)):
  ∀ (ts:List TypeId) (us:List U),zhA P ts us=true->∀ (G:Gh) (h:za) (vs:List Value) (ds:List (DataW H)) (ps:List MemPlace),HR G B h w->DataW.TrodAll enc P w 0 (fun _=>true) true ts vs ds ps ->
   (∀ (j:Nat) t v,ts[j]?=some t->vs[j]?=some v->Value.okWide P w .any base t v)->(∀ n ∈ DataW.weightsEach P ts ds,n<=reachBytes) ->
   ∃ (G':Gh) (E:List Blk) (x:El (zba us)) (margs:List AV),HR G' B (h++E) w/\G.ext G'/\VL G' margs vs/\RVs ⟨h++E,PhA (h++E),[],[]⟩ (wk us x) margs/\Wf (zba us) x
 | [],us,ha,G,h,vs,ds,ps,hr,ht,hv,hwt=>by
  cases us with
  |cons=>cases ha
  |nil=>
   obtain⟨rfl,rfl⟩:=zh4 ht
   exact⟨G,[],(),[],by rw[Arr.jE];exact hr,Gh.zT _,.nil,rfl,trivial⟩
 |t::ts,us,ha,G,h,vs,ds,ps,hr,ht,hv,hwt=>by
  cases us with
  |nil=>cases ha
  |cons u us=>
   simp only[zhA,Bool.and_eq_true,decide_eq_true_eq] at ha
   obtain⟨⟨⟨h1,h2⟩,h3⟩,h4⟩:=ha
   obtain⟨v,vs',d,ds',p,q,rfl,rfl,⟨n,h5⟩,h6⟩:=zeS ht
   obtain⟨G1,E1,x,avs,k1,k2,k3,k4,k5⟩:=zcR (enc:=enc) (base:=0) (held:=true) hB hz 6 t u h1 h2 G h _ hr ⟨n,d,p,h5,fun n hn=>hwt n (by unfold DataW.weightsEach;exact List.mem_append_left _ hn)⟩
   obtain⟨a1,a2⟩:=zjk h1 h3 (hv 0 t v rfl rfl) k3
   obtain⟨G2,E2,y,margs,m1,m2,m3,m4,m5⟩:=zfm hB hz ts us h4 G1 (h++E1) vs' ds' q k1 h6 (fun j t' v' e1 e2=>hv (j+1) t' v' (by simpa using e1) (by simpa using e2)) fun n hn=>hwt n (by unfold DataW.weightsEach;exact List.mem_append_right _ hn)
   rw[wR] at m1 m4
   have k6:=RE.app k4 E2
   rw[wR] at k6
   obtain⟨b1,b2⟩:=zd1 (Z:=⟨h++(E1++E2),PhA (h++(E1++E2)),[],[]⟩) rfl rfl k6
   cases hag:u.agg with
   |true=>exact⟨G2,E1++E2,(x,y),.agg avs::margs,m1,k2.trans m2,.cons ((a1 hag).le m2.le) m3,⟨_,_,rfl,b1 hag,m4⟩,k5,m5⟩
   |false=>
    have hl:=k4.length
    rw[U.zql hag] at hl
    match avs,hl with
    | [a],_=>exact⟨G2,E1++E2,(x,y),a::margs,m1,k2.trans m2,.cons ((a2 hag a rfl).le m2.le) m3,⟨_,_,rfl,b2 hag a rfl,m4⟩,k5,m5⟩
theorem zlX{P:Program}{gl:GL}{ct:Nat->CT}{hk:qc}{hgl:za}{Gg:Gh}{W:World}(hmo:P.follows .mixedOrders=true)(hng:zja P)(hh:HOK P hgl Gg hk)(hL:Laid P hgl Gg W.heap.size W)(hgl2:∀ E:List Blk,RGl P gl ⟨hgl++E,PhA (hgl++E),[],[]⟩)
  (hct:∀ N,zmV P gl (ct N) hk) {n:Nat} {pl:Nat->Pl} {f:FuncId} {us:List U} {F:Nat->El (zba us)->Option (El (zba [.bool]))} (hpl:∀ N fn b,P.funcs[f]?=some fn->fn.body=some b->ji P gl hk (pl N) b) (hkf:hk f=none)
  (hF:∀ N x,zaB P gl (ct N) n (pl N) f (wk us x) [] (zeA [.bool])=F N x) {ts:List TypeId} (ha:zhA P ts us=true) {H:Type} {enc:TypeId×Value->H} {base:Nat} {args:Array Value} {ds:List (DataW H)} {ps:List MemPlace}
  (ht:DataW.TrodAll enc P W 0 (fun _=>true) true ts args.toList ds ps) (hv:∀ (j:Nat) t v,ts[j]?=some t->args.toList[j]?=some v->Value.okWide P W .any base t v) (hwt:(DataW.weightsEach P ts ds).all (· <= reachBytes)=true)
  (hz:∃ (b0:Nat) (c:Array Value) (T:TypeId) (fr:Nat×Nat),W.heap[b0]?=some (.cells c T fr)) (hlaw:∀ x,Wf (zba us) x->∃ N,F N x=some (true,())):
  Calls P f args W fun e W'=>e=.returned (.bool true)/\zmW W W':=by
 obtain⟨G,E,x,margs,h1,h2,h3,h4,h5⟩:=zfm (B:=W.heap.size) rfl hz ts us ha Gg hgl args.toList ds ps hL.hr ht hv fun n hn=>by simpa using List.all_eq_true.1 hwt n hn
 have hRH:RH ⟨hgl++E,PhA (hgl++E),[],[]⟩:=⟨rfl,fun i j m v v' h=>by simp at h,fun i m v h=>by simp at h,fun m h=>h,fun i b o h=>by simp at h,fun i m v b h=>by simp at h⟩
 obtain⟨N,hN⟩:=hlaw x h5
 obtain⟨q,Y,mq,k1,S,k2,n0,k3⟩:=(zg5 (hct N) n).2.2.1 (pl N) f (hpl N) _ _ _ _ ⟨hgl++E,PhA (hgl++E),[],[]⟩ margs ((hF N x).trans hN) h4 hRH (hgl2 E)
 have k3:=k3 n0 (Nat.le_refl _)
 cases q with
 |pan v sh=>cases k1
 |ret v sh=>
  cases mq with
  |pan=>cases k2
  |ret xv h'=>
   obtain⟨e1,e2,hv2⟩:=k2
   have hxv:xv=.bool true:=by
    simp only[zeA,unS] at k1
    cases v with
    |a w=>cases w with
     |bool b=>
      simp [qY,wy,U.agg,SV.cells,dec] at k1
      cases(show xv=_ from hv2)
      have e:=(Prod.mk.inj (Option.some.inj k1)).1
      rw[e]
     |_=>simp [qY,wy,U.agg,SV.cells,dec] at k1
    |agg=>simp [qY,wy,U.agg] at k1
    |_=>simp [qY,wy,U.agg,SV.cells,dec] at k1
   subst hxv
   simp only[qy,hkf] at k3
   have hG:zbg P W.heap.size W G W:=⟨fun g hg=>by
    obtain⟨r,q1,q2⟩:=hL.g g hg
    exact⟨r,h2.le _ _ _ q1,q2⟩,fun _ _=>rfl⟩
   refine(zep (us:=args.toList) hmo hng (hh _ _ hL) k3 h3 h1 hG).mono fun e W' hcr=>?_
   obtain⟨g1,G',u,g2,g3⟩:=zjx rfl (fun loc v r hat=>h1.lt _ _ _ hat) hcr
   cases g2
   exact⟨g3,g1⟩
end Go.Sx
namespace Go.Mx
open Go Go.Gx Go.Proofs Go.Shelf Go.RowKit
def zd0:List AV->Option (List (List UInt8))
 | []=>some []
 |x::l=>match x,zd0 l with
  |.str s,some r=>some (s::r)
  |_,_=>none
def zmc(h:za):AV->Option (List (List UInt8))
 |.qj=>some []
 |.sl loc off len 1 ver _=>match rd h loc off ver (off+len) len with
  |some cs=>zd0 cs
  |none=>none
 |_=>none
theorem xu{G:Gh}:∀ {cs:List AV} {ls:List (List UInt8)} {us:List Value},zd0 cs=some ls->VL G cs us->us=ls.map zbd
 | [],ls,us,h,hv=>by cases h;cases hv;rfl
 |x::l,ls,us,h,hv=>by
  simp only[zd0] at h
  split at h
  ·rename_i s r hr
   cases h
   cases hv with
   |cons h1 h2=>rw[xP h1,xu hr h2];rfl
  ·cases h
theorem jY{G:Gh}{B:Nat}{h:za}{w w':World}{v:AV}{u:Value}(hr:HR G B h w)(hb:Below w.heap.size w w')(hv:V G v u):zi9 G B w (.ret v h) (.returned u) w':=
 ⟨G,Step.grow hr hb.size hb.block hb.os hb.tape hb.output,u,hv,rfl⟩
theorem zgn(w:World)(n q:Nat):Below n w (w.drewN q):=⟨rfl,rfl,rfl,Nat.le_refl _,fun _ _=>rfl⟩
def zit:Nat:=140737488355328
def zin:List AV->za->Option CR:=fun args h=>match args with
 | [x,.str sep]=>match zmc h x with
  |some ls=>if(Lib.join ls sep).length<=zit/\ls.length<=zit then some (.ret (.str (Lib.join ls sep)) h) else none
  |none=>none
 |_=>none
section
variable {P:Program} {ρ:Ren} {hgl:za} {Gg:Gh} {B:Nat} {W0:World}
theorem zlU(L:Lays.n156 P ρ)(X:Builder.Extra P ρ){args:List AV}{h:za}{r:CR}(hg:zin args h=some r):zb2 P B W0 (ρ.f 156) args h r:=by
 intro G us w hx hr hgl
 unfold zin at hg
 split at hg
 ·rename_i x sep
  split at hg
  ·rename_i ls hls
   split at hg
   ·rename_i hc
    obtain⟨c1,c2⟩:=hc
    cases hg
    cases hx with
    |cons h1 h2=>cases h2 with
     |cons h3 h4=>
      cases h4
      have hs:=xP h3
      subst hs
      refine .inl ⟨?_,Go.Proofs.enters_of L.f156 (by kernel_rfl) rfl⟩
      have hmap:(ls.map fun l=>(⟨l.toArray⟩:ByteArray)).map (·.data.toList)=ls:=by
       rw[List.map_map];exact List.map_id _
      have main:∀ (b o c:Nat),ls.length<=c->b<w.heap.size->(∀ (j:Nat) (l:List UInt8),ls[j]?=some l->w.cell? ⟨b,o+j,none⟩=some (zbd l)) ->
        Calls P (ρ.f 156) #[.slice (some ⟨b,o,none⟩) ls.length c,zbd sep] w (zi9 G B w (.ret (.str (Lib.join ls sep)) h)):=by
       intro b o c hlc hbw hcells
       have:=Any.strings_Join L X b o c (ls.map fun l=>(⟨l.toArray⟩:ByteArray)) ⟨sep.toArray⟩ w
        (fun j x hj=>by
         rw[List.getElem?_map,Option.map_eq_some_iff] at hj
         obtain⟨l,hl,rfl⟩:=hj
         exact hcells j l hl) hbw (by rw[List.length_map];exact c2) (by rw[List.length_map];exact hlc) (by rw[hmap];exact c1)
       rw[hmap,List.length_map] at this
       exact this.mono fun e w' ⟨he,hb⟩=>by subst he;exact jY hr hb (.str _)
      unfold zmc at hls
      split at hls
      ·cases hls
       cases h1
       exact(Any.strings_Join_none L X none 0 ⟨sep.toArray⟩ w).mono fun e w' ⟨he,hw⟩=>by subst he;subst hw;exact jY hr (.refl _ _) (.str [])
      ·split at hls
       ·rename_i loc off len ver clip _ cs hrd
        cases h1 with
        | @sl _ _ _ _ _ cap _ r g1 g2 g3 g4 g5 g6 g7 g8 g9=>
         obtain⟨us,o1,o2,o3⟩:=zD hr hrd g1 g2 (by omega)
         have hub:=xu hls o1
         have hln:ls.length=len:=by rw[<- o2,hub];simp
         have:=main r.b (off+r.sh-r.lo) cap (by omega) (hr.lt _ _ _ g1) (fun j l hj=>o3 j _ (by rw[hub];simp [hj]))
         rw[hln] at this
         exact this
        | @sl0 _ _ _ _ a _ r g1 g2 g3 g6 g9=>
         obtain⟨us,o1,o2,o3⟩:=zD hr hrd g1 g2 (by omega)
         have hub:=xu hls o1
         have h0:us=[]:=List.eq_nil_of_length_eq_zero o2
         rw[h0] at hub
         obtain rfl:ls=[]:=by
          cases ls with
          |nil=>rfl
          |cons=>simp at hub
         exact(Any.strings_Join_none L X (some a) 0 ⟨sep.toArray⟩ w).mono fun e w' ⟨he,hw⟩=>by subst he;subst hw;exact jY hr (.refl _ _) (.str [])
       ·cases hls
      ·cases hls
   ·cases hg
  ·cases hg
 ·cases hg
def zeZ(B:Nat)(W0:World)(g:Nat):Prop:=∀ w:World,(∀ b,b<B->w.heap[b]?=W0.heap[b]?)->∃ m,w.cell? ⟨g,0,none⟩=some (.int .i64 m)
def zjf(B:Nat)(W0:World)(g:Nat):Prop:=∀ w:World,(∀ b,b<B->w.heap[b]?=W0.heap[b]?)->∃ ev,w.cell? ⟨g,0,none⟩=some ev/\(ev=.nilIface\/∃ te pe,ev=.iface te pe)
theorem Laid.cell(hL:Laid P hgl Gg B W0){g:Nat}(hg:g<P.globals.size){x:AV}(hb:hgl[g]?=some (.lay [x])):∃ u,V Gg x u/\∀ w:World,(∀ b,b<B->w.heap[b]?=W0.heap[b]?)->w.cell? ⟨g,0,none⟩=some u:=by
 obtain⟨r,e1,e2,e3,e4⟩:=hL.g g hg
 obtain⟨u,o1,hcell⟩:=zjV hL.hr hb e1
 rw[e2,e4] at hcell
 have hlt:g<B:=e2 ▸ hL.low _ _ _ e1
 exact⟨u,o1,fun w hw=>by rw[<- hcell];simp only[World.cell?];rw[hw g hlt]⟩
theorem Laid.iv(hL:Laid P hgl Gg B W0){g:Nat}(hg:g<P.globals.size){lo hi:Int}(hb:hgl[g]?=some (.lay [.iv lo hi])):zeZ B W0 g:=fun w hw=>by
 obtain⟨u,h1,h2⟩:=hL.cell hg hb
 cases h1
 exact⟨_,h2 w hw⟩
theorem Laid.opq(hL:Laid P hgl Gg B W0){g:Nat}(hg:g<P.globals.size)(hb:hgl[g]?=some (.lay [.opq])):zjf B W0 g:=fun w hw=>by
 obtain⟨u,h1,h2⟩:=hL.cell hg hb
 cases h1
 exact⟨_,h2 w hw,.inr ⟨_,_,rfl⟩⟩
def mbs(h:za):AV->Option (List UInt8)
 |.qj=>some []
 |.sl loc off len 1 ver _=>match rd h loc off ver (off+len) len with
  |some cs=>wH cs
  |none=>none
 |_=>none
theorem ko(l:List UInt8):Lib.bytesOf (l.map fun c=>(c.toNat:Int))=l:=by
 unfold Lib.bytesOf
 rw[List.map_map]
 conv=>rhs;rw[<- List.map_id l]
 exact List.map_congr_left fun c _=>by simp
theorem zaT{G:Gh}{h:za}{w:World}{x:AV}{u:Value}{l:List UInt8}(hr:HR G B h w)(he:mbs h x=some l)(hx:V G x u):
  (u=.slice none 0 0/\l=[])\/∃ a c,u=.slice (some a) l.length c/\l.length<=c/\∀ i,i<l.length->w.cell? (a.add i)=some (.int .u8 ((l.map fun c=>(c.toNat:Int)).getD i 0)):=by
 unfold mbs at he
 split at he
 ·cases he;cases hx;exact .inl ⟨rfl,rfl⟩
 ·split at he
  ·rename_i loc off len ver clip _ cs hrd
   cases hx with
   | @sl _ _ _ _ _ cap _ r g1 g2 g3 g4 g5 g6 g7 g8 g9=>
    obtain⟨us,o1,o2,o3⟩:=zD hr hrd g1 g2 (by omega)
    have hub:=zW he o1
    have hln:l.length=len:=by rw[<- o2,hub];simp
    refine .inr ⟨⟨r.b,off+r.sh-r.lo,none⟩,cap,by rw[hln],by omega,fun i hi=>?_⟩
    rw[Addr.add_lit]
    refine o3 i _ ?_
    rw[hub,List.getElem?_map,List.getElem?_eq_getElem hi,List.getD_eq_getElem?_getD,List.getElem?_map,List.getElem?_eq_getElem hi]
    rfl
   | @sl0 _ _ _ _ o _ r g1 g2 g3 g6 g9=>
    obtain⟨us,o1,o2,o3⟩:=zD hr hrd g1 g2 (by omega)
    have hub:=zW he o1
    obtain rfl:l=[]:=by
     have:us=[]:=List.eq_nil_of_length_eq_zero o2
     rw[this] at hub
     cases l with
     |nil=>rfl
     |cons=>simp at hub
    exact .inr ⟨o,0,rfl,Nat.le_refl _,fun i hi=>by simp at hi⟩
  ·cases he
 ·cases he
def zbO:List AV->za->Option CR:=fun args h=>match args with
 | [x,y]=>match mbs h x,mbs h y with
  |some a,some b=>if 0<b.length/\a.length<4294967281/\b.length<4294967281 then some (.ret (.int .i64 (Lib.index a b)) h) else none
  |_,_=>none
 |_=>none
theorem zjR(L:Lays.n185 P ρ)(hm:zeZ B W0 (ρ.g 1)){args:List AV}{h:za}{r:CR}(hg:zbO args h=some r):zb2 P B W0 (ρ.f 185) args h r:=by
 intro G us w hx hr hgl
 unfold zbO at hg
 split at hg
 ·rename_i x y
  split at hg
  ·rename_i a b h1 h2
   split at hg
   ·rename_i hc
    obtain⟨c0,c1,c2⟩:=hc
    cases hg
    cases hx with
    |cons x1 x2=>cases x2 with
     |cons x3 x4=>
      cases x4
      refine .inl ⟨?_,Go.Proofs.enters_of L.f185 (by kernel_rfl) rfl⟩
      obtain⟨m,hcell⟩:=hm w hgl.low
      ·rcases zaT hr h2 x3 with⟨_,rfl⟩|⟨a2,k2,rfl,hk2,hcells2⟩
       ·simp at c0
       ·rcases zaT hr h1 x1 with⟨rfl,rfl⟩|⟨a1,k1,rfl,hk1,hcells1⟩
        ·refine(Any.bytes_Index_nil L (some a2) b.length k2 w (by omega) (fun e=>?_)).mono fun e w' ⟨he,hw⟩=>?_
         ·have h0:=hcells2 0 c0
          have e2:=Lib.plain_of_cell (by simpa [Addr.add] using h0)
          obtain⟨b2,o2,s2⟩:=a2
          simp only[Addr.mk.injEq,true_and] at e2
          subst e2
          exact⟨b2,o2,_,rfl,by simpa [Addr.add] using h0⟩
         ·subst hw
          rw[if_neg (by omega)] at he
          subst he
          have:Lib.index [] b=-1:=by
           cases b with
           |nil=>simp at c0
           |cons=>rfl
          rw[this]
          exact jY hr (.refl _ _) (.int _ _)
        ·have:=Any.bytes_Index_at L a1 a2 a.length k1 b.length k2 (a.map fun c=>(c.toNat:Int)) (b.map fun c=>(c.toNat:Int)) m w (by simp) (by simp)
          (fun z hz=>by obtain⟨c,_,rfl⟩:=List.mem_map.1 hz;exact⟨by omega,by have:=c.toNat_lt;omega⟩)
          (fun z hz=>by obtain⟨c,_,rfl⟩:=List.mem_map.1 hz;exact⟨by omega,by have:=c.toNat_lt;omega⟩) hcells1 hcells2 hk1 c1 (by omega) hcell
         rw[ko,ko] at this
         exact this.mono fun e w' ⟨he,q,hw⟩=>by subst he;subst hw;exact jY hr (zgn _ _ _) (.int _ _)
   ·cases hg
  ·cases hg
 ·cases hg
def zni:Lib.NumEnd Nat->AV
 |.ok u=>.tup [.int .u64 u,.xQ]
 |Go.Lib.NumEnd.syntax=>.tup [.int .u64 0,.opq]
 |.range=>.tup [.int .u64 4294967295,.opq]
def zcZ:List AV->za->Option CR:=fun args h=>match args with
 | [.str s,.int .i64 m,.int .i64 n]=>if m=10/\n=32/\s.length<=281474976710656 then some (.ret (zni (Lib.parseUintB 32 s)) h) else none
 |_=>none
theorem zd7{G:Gh}{h:za}{w w':World}{t:TypeId}{s:ByteArray}{v:AV}{u:Value}(hr:HR G B h w)(hw:w'=w\/w'=Lib.bytesWorld w t s)(hv:V G v u):zi9 G B w (.ret v h) (.returned u) w':=by
 rcases hw with rfl|rfl
 ·exact jY hr (.refl _ _) hv
 ·exact jY hr (Lib.bytesWorld_below _ _ _) hv
theorem zkr(L:LaysPu.n14 P ρ)(hg0:zjf B W0 (ρ.g 0))(hg1:zjf B W0 (ρ.g 1)){args:List AV}{h:za}{r:CR}(hg:zcZ args h=some r):zb2 P B W0 (ρ.f 14) args h r:=by
 intro G us w hx hr hgl
 unfold zcZ at hg
 split at hg
 ·rename_i s m n
  split at hg
  ·rename_i hc
   obtain⟨rfl,rfl,hs⟩:=hc
   cases hg
   cases hx with
   |cons x1 x2=>cases x2 with
    |cons x3 x4=>cases x4 with
     |cons x5 x6=>
      cases x6
      have k1:=xP x1;have k2:=qV x3;have k3:=qV x5
      subst k1;subst k2;subst k3
      refine .inl ⟨?_,Go.Proofs.enters_of L.f14 (by kernel_rfl) rfl⟩
      rcases hp:Lib.parseUintB 32 s with u|_|_
      ·refine(Any.strconv_ParseUint_10_at32_ok L ⟨s.toArray⟩ (by show s.length<=_;omega) u hp w).mono fun e w' ⟨he,hw⟩=>?_
       subst he
       exact zd7 hr hw (.tup (.cons (.int _ _) (.cons .xQ .nil)))
      ·obtain⟨ev,q1,q2⟩:=hg0 w hgl.low
       refine(Any.strconv_ParseUint_10_at32_syntax L ⟨s.toArray⟩ hs hp ev w q1 q2).mono fun e w' ⟨N,he,_,_,hw⟩=>?_
       subst he
       exact jY hr hw (.tup (.cons (.int _ _) (.cons (.opq _ _) .nil)))
      ·obtain⟨ev,q1,q2⟩:=hg1 w hgl.low
       refine(Any.strconv_ParseUint_10_at32_range L ⟨s.toArray⟩ hs hp ev w q1 q2).mono fun e w' ⟨N,he,_,_,hw⟩=>?_
       subst he
       exact jY hr hw (.tup (.cons (.int _ _) (.cons (.opq _ _) .nil)))
  ·cases hg
 ·cases hg
def ja(s sep:List UInt8):List (List UInt8):=(Lib.splitB ⟨sep.toArray⟩ 0 (Lib.countB ⟨s.toArray⟩ ⟨sep.toArray⟩) ⟨s.toArray⟩).map (·.data.toList)
def za8(e:TypeId):List AV->za->Option CR:=fun args h=>match args with
 | [.str s,.str sep]=>if 0<sep.length/\s.length<4294967281 then some (.ret (.sl h.length 0 (ja s sep).length 1 0 false) (w9 h ((ja s sep).map .str) e)) else none
 |_=>none
theorem zk4(L:Lays.n146 P ρ)(hi9:(P.info? (ρ.t 9)).map (fun i=>(i.zero,i.size,i.bytes))=some (some (.string ByteArray.empty),1,16))(hm:zeZ B W0 (ρ.g 1)){args:List AV}{h:za}{r:CR}(hg:za8 (ρ.t 9) args h=some r):zb2 P B W0 (ρ.f 146) args h r:=by
 intro G us w hx hr hgl
 unfold za8 at hg
 split at hg
 ·rename_i s sep
  ·split at hg
   ·rename_i hc
    obtain⟨c0,c1⟩:=hc
    cases hg
    cases hx with
    |cons x1 x2=>cases x2 with
     |cons x3 x4=>
      cases x4
      have k1:=xP x1;have k2:=xP x3
      subst k1;subst k2
      refine .inl ⟨?_,Go.Proofs.enters_of L.f146 (by kernel_rfl) rfl⟩
      obtain⟨m,hcell⟩:=hm w hgl.low
      ·have h1:1<=(⟨sep.toArray⟩:ByteArray).size:=c0
       have hlen:=Lib.splitB_all ⟨sep.toArray⟩ h1 0 _ ⟨s.toArray⟩ rfl
       refine(Any.strings_Split L hi9 ⟨s.toArray⟩ ⟨sep.toArray⟩ m w (by show s.length<_;omega) hcell h1).mono fun e w' ⟨he,hw⟩=>?_
       subst he
       have hln:(ja s sep).length=Lib.countB ⟨s.toArray⟩ ⟨sep.toArray⟩+1:=by unfold ja;rw[List.length_map,hlen]
       have hcl:Lib.countB ⟨s.toArray⟩ ⟨sep.toArray⟩<=s.length:=Lib.countB_le ⟨sep.toArray⟩ h1 (⟨s.toArray⟩:ByteArray).size ⟨s.toArray⟩ (Nat.le_refl _)
       have hvs:(Lib.splitB ⟨sep.toArray⟩ 0 (Lib.countB ⟨s.toArray⟩ ⟨sep.toArray⟩) ⟨s.toArray⟩).map Value.string=(ja s sep).map zbd:=by
        unfold ja
        rw[List.map_map]
        exact List.map_congr_left fun b _=>rfl
       rw[hvs] at hw
       have hvl:∀ {G:Gh} (l:List (List UInt8)),VL G (l.map .str) (l.map zbd):=fun {G} l=>by
        induction l with
        |nil=>exact .nil
        |cons x l ih=>exact .cons (.str _) ih
       have hS:=Step.newRow (c:=((ja s sep).map zbd).toArray) (T:=ρ.t 9) (w':=w.alloc (.cells ((ja s sep).map zbd).toArray (ρ.t 9))) hr (hvl (ja s sep))
        (fun p hp=>by simp)
        (heap_alloc_new w _) (by simp) (fun b hb=>(xw.alloc [] w _).block b hb (by simp)) rfl rfl rfl
       subst hw
       refine⟨_,hS,_,?_,rfl⟩
       rw[<- hr.len,<- hln]
       exact .sl (r:=⟨w.heap.size,0,((ja s sep).map AV.str).length,_,0⟩) (by rw[jz];rfl) (Nat.le_refl _) (by simp) (Nat.le_refl _) (by simp) (fun e=>by cases e) (fun _=>by simp) (by rw[hln];simp only[maxLen];omega) (by omega)
   ·cases hg
 ·cases hg
end
end Go.Mx
namespace Go.Sx
open Go Go.Gx Go.Mx
variable [qE]
def zhX(v:SV)(h:SH):Option (List UInt8):=match v with
 |.a (.str l)=>some l
 |v=>reads .u8 v h
theorem xr(l:List UInt8):wH (l.map fun b=>AV.int .u8 (b.toNat:Int))=some l:=zaD l
theorem RCs.u8{h:za}{Φ:Nat->Prop}:∀ {l:List UInt8} {cs:List AV},RCs h Φ .u8 l cs->cs=l.map fun b=>AV.int .u8 (b.toNat:Int):=by
 intro l cs q
 refine List.ext_getElem? fun i=>?_
 obtain⟨q1,q2⟩:=q
 have hl:cs.length=l.length:=by rw[q1];exact Nat.mul_one _
 rw[List.getElem?_map]
 cases hi:l[i]? with
 |none=>
  rw[List.getElem?_eq_none_iff] at hi
  rw[List.getElem?_eq_none_iff.2 (by omega)];rfl
 |some e=>
  have h1:=q2 i e hi
  have hlt:=(List.getElem?_eq_some_iff.1 hi).1
  have h2:part 1 cs i=[AV.int .u8 (e.toNat:Int)]:=h1
  rw[zN,Nat.mul_one,List.drop_eq_getElem_cons (by omega)] at h2
  simp only[List.take_succ_cons,List.take_zero,List.cons.injEq,and_true] at h2
  rw[List.getElem?_eq_getElem (by omega),h2];rfl
theorem zbV{X:Gst}(hr:RH X){v:SV}{x:AV}{l:List UInt8}(hv:RV X v x)(h:zhX v X.sh=some l):zbQ X.h x=some l:=by
 unfold zhX at h
 split at h
 ·cases h;cases(show x=_ from hv);rfl
 ·rcases wE hr hv h with⟨rfl,rfl⟩|⟨m,off,ver,clip,cs,rfl,q1,q2⟩
  ·rfl
  ·have e:U.u8.sz=1:=rfl
   rw[e,Nat.mul_one] at q1
   rw[e]
   simp only[zbQ,q1]
   rw[RCs.u8 q2]
   exact xr l
def zhH:CF:=fun R args h κ=>match args with
 | [v,.u8 c]=>match zhX v h with
  |some l=>κ (.ret (.a (.int .i64 (kX c l 0))) h)
  |none=>none
 |_=>none
def zhE:CF:=fun R args h κ=>match args with
 | [v,.u8 c]=>match zhX v h with
  |some l=>κ (.ret (.a (.int .i64 (Go.Lib.countByte l c))) h)
  |none=>none
 |_=>none
def zoF:CF:=fun R args h κ=>match args with
 | [.ptr loc off lim]=>κ (.ret (.ptr loc off lim) h)
 |_=>none
theorem zls(c:UInt8):((c.toNat:Int).toNat).toUInt8=c:=by simp
section
variable {P:Program} {gl:GL} {hk:qc} {f:FuncId}
theorem zbK(h:hk f=some (mx .indexByte)):zd2 P gl hk f zhH:=by
 intro R args κ r X margs hc hargs hr hg
 unfold zhH at hc
 split at hc
 ·rename_i v c
  obtain⟨x,t,rfl,q1,y,t2,rfl,q2,q3⟩:=hargs
  cases(show t2=[] from q3)
  cases(show y=_ from q2)
  split at hc
  ·rename_i l hl
   refine⟨_,X,.ret (.int .i64 (kX c l 0)) X.h,hc,.refl hr,⟨rfl,rfl,rfl⟩,Ev.all fun n=>?_⟩
   simp only[qy,h,mx,zbV hr q1 hl,zls]
  ·cases hc
 ·cases hc
theorem zg6(h:hk f=some (mx .same)):zd2 P gl hk f zoF:=by
 intro R args κ r X margs hc hargs hr hg
 unfold zoF at hc
 split at hc
 ·obtain⟨x,t,rfl,q1,q3⟩:=hargs
  cases(show t=[] from q3)
  refine⟨_,X,.ret x X.h,hc,.refl hr,⟨rfl,rfl,q1⟩,Ev.all fun n=>?_⟩
  simp only[qy,h,mx]
 ·cases hc
theorem zbJ(h:hk f=some (mx .count)):zd2 P gl hk f zhE:=by
 intro R args κ r X margs hc hargs hr hg
 unfold zhE at hc
 split at hc
 ·rename_i v c
  obtain⟨x,t,rfl,q1,y,t2,rfl,q2,q3⟩:=hargs
  cases(show t2=[] from q3)
  cases(show y=_ from q2)
  split at hc
  ·rename_i l hl
   refine⟨_,X,.ret (.int .i64 (Go.Lib.countByte l c)) X.h,hc,.refl hr,⟨rfl,rfl,rfl⟩,Ev.all fun n=>?_⟩
   simp only[qy,h,mx,zbV hr q1 hl,zls]
  ·cases hc
 ·cases hc
theorem RCs.strs{h:za}{Φ:Nat->Prop}{l:List (List UInt8)}{cs:List AV}(q:RCs h Φ .str l cs):cs=l.map AV.str:=by
 refine List.ext_getElem? fun i=>?_
 obtain⟨q1,q2⟩:=q
 have hl:cs.length=l.length:=by rw[q1];exact Nat.mul_one _
 rw[List.getElem?_map]
 cases hi:l[i]? with
 |none=>
  rw[List.getElem?_eq_none_iff] at hi
  rw[List.getElem?_eq_none_iff.2 (by omega)];rfl
 |some e=>
  have h1:=q2 i e hi
  have hlt:=(List.getElem?_eq_some_iff.1 hi).1
  have h2:part 1 cs i=[AV.str e]:=h1
  rw[zN,Nat.mul_one,List.drop_eq_getElem_cons (by omega)] at h2
  simp only[List.take_succ_cons,List.take_zero,List.cons.injEq,and_true] at h2
  rw[List.getElem?_eq_getElem (by omega),h2];rfl
theorem zi3(l:List (List UInt8)):zd0 (l.map AV.str)=some l:=by
 induction l with
 |nil=>rfl
 |cons b l ih=>simp [zd0,ih]
theorem zmd{X:Gst}(hr:RH X){v:SV}{x:AV}{l:List (List UInt8)}(hv:RV X v x)(h:reads .str v X.sh=some l):zmc X.h x=some l:=by
 rcases wE hr hv h with⟨rfl,rfl⟩|⟨m,off,ver,clip,cs,rfl,q1,q2⟩
 ·rfl
 ·have e:U.str.sz=1:=rfl
  rw[e,Nat.mul_one] at q1
  rw[e]
  simp only[zmc,q1]
  rw[RCs.strs q2]
  exact zi3 l
theorem zj0{X:Gst}(hr:RH X){v:SV}{x:AV}{l:List UInt8}(hv:RV X v x)(h:reads .u8 v X.sh=some l):mbs X.h x=some l:=by
 rcases wE hr hv h with⟨rfl,rfl⟩|⟨m,off,ver,clip,cs,rfl,q1,q2⟩
 ·rfl
 ·have e:U.u8.sz=1:=rfl
  rw[e,Nat.mul_one] at q1
  rw[e]
  simp only[mbs,q1]
  rw[RCs.u8 q2]
  exact xr l
def znY:CF:=fun R args h κ=>match args with
 | [v,.a (.str sep)]=>match reads .str v h with
  |some ls=>cond (Nat.ble (Go.Lib.join ls sep).length zit&&Nat.ble ls.length zit) (κ (.ret (.a (.str (Go.Lib.join ls sep))) h)) none
  |none=>none
 |_=>none
def jG:Nat:=4294967280
def zjQ:CF:=fun R args h κ=>match args with
 | [x,y]=>match reads .u8 x h,reads .u8 y h with
  |some a,some b=>cond (Nat.blt 0 b.length&&(Nat.ble a.length jG&&Nat.ble b.length jG)) (κ (.ret (.a (.int .i64 (Go.Lib.index a b))) h)) none
  |_,_=>none
 |_=>none
def zpw{R:Type}(p:Go.Lib.NumEnd Nat)(a:Int->R)(b c:R):R:=match p with
 |.ok u=>a (u:Int)
 |Go.Lib.NumEnd.syntax=>b
 |.range=>c
def zn4:Nat:=281474976710656
def zkq:CF:=fun R args h κ=>match args with
 | [.a (.str s),.a (.int .i64 m),.a (.int .i64 n)]=>match decide (m=10),decide (n=32) with
  |true,true=>cond (Nat.ble s.length zn4) (zpw (Go.Lib.parseUintB 32 s) (fun u=>κ (.ret (.tup [.a (.int .u64 u),.a .xQ]) h)) (κ (.ret (.tup [.a (.int .u64 0),.a .opq]) h)) (κ (.ret (.tup [.a (.int .u64 4294967295),.a .opq]) h))) none
  |_,_=>none
 |_=>none
def zk3:CF:=fun R args h κ=>match args with
 | [.a (.str s),.a (.str sep)]=>cond (Nat.blt 0 sep.length&&Nat.ble s.length jG) (κ (.ret (.gs h.length 0) (h++[.seq .str (ja s sep) 0 0]))) none
 |_=>none
section
variable {g g0 g1:Nat} {cs:List AV}
theorem zgE(h:hk f=some zin):zd2 P gl hk f znY:=by
 intro R args κ r X margs hc hargs hr hg
 unfold znY at hc
 split at hc
 ·rename_i v sep
  obtain⟨x,t,rfl,q1,y,t2,rfl,q2,q3⟩:=hargs
  cases(show t2=[] from q3)
  cases(show y=_ from q2)
  split at hc
  ·rename_i l hl
   cases hb:(Nat.ble (Go.Lib.join l sep).length zit&&Nat.ble l.length zit) with
   |false=>rw[hb] at hc;cases hc
   |true=>
    rw[hb] at hc
    rw[Bool.and_eq_true] at hb
    refine⟨_,X,.ret (.str (Go.Lib.join l sep)) X.h,hc,.refl hr,⟨rfl,rfl,rfl⟩,Ev.all fun n=>?_⟩
    simp only[qy,h,zin,zmd hr q1 hl]
    rw[if_pos ⟨Nat.le_of_ble_eq_true hb.1,Nat.le_of_ble_eq_true hb.2⟩]
  ·cases hc
 ·cases hc
theorem zfh(h:hk f=some zbO):zd2 P gl hk f zjQ:=by
 intro R args κ r X margs hc hargs hr hg
 unfold zjQ at hc
 split at hc
 ·rename_i v v2
  obtain⟨x,t,rfl,q1,y,t2,rfl,q2,q3⟩:=hargs
  cases(show t2=[] from q3)
  split at hc
  ·rename_i a b h1 h2
   cases hb:(Nat.blt 0 b.length&&(Nat.ble a.length jG&&Nat.ble b.length jG)) with
   |false=>rw[hb] at hc;cases hc
   |true=>
    rw[hb] at hc
    rw[Bool.and_eq_true,Bool.and_eq_true] at hb
    have k1:=Nat.le_of_ble_eq_true hb.1
    have k2:=Nat.le_of_ble_eq_true hb.2.1
    have k3:=Nat.le_of_ble_eq_true hb.2.2
    unfold jG at k2 k3
    refine⟨_,X,.ret (.int .i64 (Go.Lib.index a b)) X.h,hc,.refl hr,⟨rfl,rfl,rfl⟩,Ev.all fun n=>?_⟩
    simp only[qy,h,zbO,zj0 hr q1 h1,zj0 hr q2 h2]
    rw[if_pos ⟨by omega,by omega,by omega⟩]
  ·cases hc
 ·cases hc
theorem zfL(h:hk f=some zcZ):zd2 P gl hk f zkq:=by
 intro R args κ r X margs hc hargs hr hg
 unfold zkq at hc
 split at hc
 ·rename_i s m n
  obtain⟨x,t,rfl,q1,y,t2,rfl,q2,z,t3,rfl,q3,q4⟩:=hargs
  cases(show t3=[] from q4)
  cases(show x=_ from q1);cases(show y=_ from q2);cases(show z=_ from q3)
  split at hc
  ·rename_i e1 e2
   have e1:=of_decide_eq_true e1
   have e2:=of_decide_eq_true e2
   subst e1;subst e2
   cases hb:Nat.ble s.length zn4 with
   |false=>rw[hb] at hc;cases hc
   |true=>
    rw[hb] at hc
    have k1:=Nat.le_of_ble_eq_true hb
    unfold zn4 at k1
    have hm:∀ n,qy P hk (qQ P hk n) (.f f) [.str s,.int .i64 10,.int .i64 32] X.h=some (.ret (zni (Go.Lib.parseUintB 32 s)) X.h):=fun n=>by
     simp [qy,h,zcZ,k1]
    simp only[cond_true] at hc
    rcases hp:Go.Lib.parseUintB 32 s with u|_|_
    ·rw[hp] at hc
     exact⟨_,X,.ret (.tup [.int .u64 (u:Int),.xQ]) X.h,hc,.refl hr,⟨rfl,rfl,_,rfl,_,_,rfl,rfl,_,_,rfl,rfl,rfl⟩,Ev.all fun n=>by rw[hm n,hp];rfl⟩
    ·rw[hp] at hc
     exact⟨_,X,.ret (.tup [.int .u64 0,.opq]) X.h,hc,.refl hr,⟨rfl,rfl,_,rfl,_,_,rfl,rfl,_,_,rfl,rfl,rfl⟩,Ev.all fun n=>by rw[hm n,hp];rfl⟩
    ·rw[hp] at hc
     exact⟨_,X,.ret (.tup [.int .u64 4294967295,.opq]) X.h,hc,.refl hr,⟨rfl,rfl,_,rfl,_,_,rfl,rfl,_,_,rfl,rfl,rfl⟩,Ev.all fun n=>by rw[hm n,hp];rfl⟩
  ·cases hc
 ·cases hc
theorem RCs.zon{h:za}{Φ:Nat->Prop}(l:List (List UInt8)):RCs h Φ .str l (l.map AV.str):=by
 refine⟨by simp [U.sz],fun i e hi=>?_⟩
 have hi':(l.map AV.str)[i]?=some (AV.str e):=by rw[List.getElem?_map,hi];rfl
 obtain⟨hlt,e2⟩:=List.getElem?_eq_some_iff.1 hi'
 rw[zN,show i*U.str.sz=i from Nat.mul_one i,show U.str.sz=1 from rfl,List.drop_eq_getElem_cons hlt,e2];rfl
theorem zf1{e:TypeId}(h:hk f=some (za8 e)):zd2 P gl hk f zk3:=by
 intro R args κ r X margs hc hargs hr hg
 unfold zk3 at hc
 split at hc
 ·rename_i s sep
  obtain⟨x,t,rfl,q1,y,t2,rfl,q2,q3⟩:=hargs
  cases(show t2=[] from q3)
  cases(show x=_ from q1);cases(show y=_ from q2)
  cases hb:(Nat.blt 0 sep.length&&Nat.ble s.length jG) with
  |false=>rw[hb] at hc;cases hc
  |true=>
   rw[hb] at hc
   rw[Bool.and_eq_true] at hb
   have k1:=Nat.le_of_ble_eq_true hb.1
   have k2:=Nat.le_of_ble_eq_true hb.2
   unfold jG at k2
   obtain⟨Y,h5,h6,h7,h8⟩:=kF hr (u:=.str) (l:=ja s sep) (tt:=some e) (hc:=RCs.zon _)
   refine⟨_,Y,.ret (.sl X.h.length 0 (ja s sep).length 1 0 false) (w9 X.h ((ja s sep).map .str) e),hc,h5,⟨h6,h7,h8⟩,Ev.all fun n=>?_⟩
   simp only[qy,h,za8]
   rw[if_pos ⟨by omega,by omega⟩]
 ·cases hc
end
end
end Go.Sx
namespace Go.Mx
open Go Go.Gx

end Go.Mx
namespace Go.Sx
open Go Go.Gx Go.Mx
variable [qE]
section
variable (P:Program) (gl:GL) (ct:CT) {R:Type}
end
section
variable {P:Program} {gl:GL} {ct:CT} {hk:qc} {q:FuncId->Bool} {l:List Oper} {env0:Arr AV} {X0 X:Gst} {recs:List Rec} {env:List SV} {h:SH} {me:Arr AV}
end
section
variable {P:Program} {gl:GL} {ct:CT} {hk:qc}
end
def ziL(fn:Func)(p:List Nat):Option (Array Tmp×Code×Code):=match fn.body with
 |some c=>match zlG c p with
  |.rangeFunc _ ps asg body=>some (ps,asg,body)
  |_=>none
 |none=>none
section
variable {P:Program} {gl:GL} {hk:qc} {al:List FuncId} (hh:zmX P hk al) {T:FT} (hT:zlB P gl hk T)
include hh hT
end
end Go.Sx
set_option linter.unusedVariables false
set_option linter.unusedSimpArgs false
namespace Go.Mx
open Go Go.Gx Go.Shelf Go.Proofs
def mpc(sep:List UInt8)(loc ver:Nat)(c:Bool):Nat->Nat->List UInt8->List AV
 |0,off,l=>[.sl loc off l.length 1 ver c]
 |k+1,off,l=>if Lib.index l sep == -1 then[.sl loc off l.length 1 ver c] else
   .sl loc off ((Lib.index l sep).toNat+0) 1 ver true::mpc sep loc ver c k (off+((Lib.index l sep).toNat+sep.length)) (l.drop ((Lib.index l sep).toNat+sep.length))
def wS(x:AV)(a sep:List UInt8):List AV:=match x with
 |.sl loc off _ _ ver c=>mpc sep loc ver c (Lib.count a sep) off a
 |_=>[.qj]
def wT(e:TypeId):List AV->za->Option CR:=fun args h=>match args with
 | [x,y]=>match mbs h x,mbs h y with
  |some a,some b=>if 0<b.length/\a.length<4294967281/\b.length<4294967281 then some (.ret (.sl h.length 0 (wS x a b).length 1 0 false) (w9 h (wS x a b) e)) else none
  |_,_=>none
 |_=>none
theorem zpu{G:Gh}{loc ver:Nat}{c:Bool}{r:Ver}(hG:G.at loc ver=some r){sep:List UInt8}(hs:0<sep.length):∀ (k off cap:Nat) (a:Addr) (l:List UInt8),r.lo<=off->off+l.length<=r.top->l.length<=cap->off+r.sh-r.lo+cap<=r.size ->
  (c=true->cap=l.length)->(c=false->r.top<=off+cap)->cap<=maxLen->(a=⟨r.b,off+r.sh-r.lo,none⟩\/cap=0)->VL G (mpc sep loc ver c k off l) (Lib.splitV sep 0 k a cap l):=by
 have base:∀ (off cap:Nat) (a:Addr) (l:List UInt8),r.lo<=off->off+l.length<=r.top->l.length<=cap->off+r.sh-r.lo+cap<=r.size ->
   (c=true->cap=l.length)->(c=false->r.top<=off+cap)->cap<=maxLen->(a=⟨r.b,off+r.sh-r.lo,none⟩\/cap=0)->VL G [.sl loc off l.length 1 ver c] [.slice (some a) l.length cap]:=by
  intro off cap a l h1 h2 h3 h4 h5 h6 h7 ha
  refine .cons ?_ .nil
  rcases ha with rfl|rfl
  ·exact .sl hG h1 (by omega) h3 (by omega) h5 (fun e=>by have:=h6 e;omega) h7 (by omega)
  ·have:l.length=0:=by omega
   rw[this]
   exact .sl0 hG h1 (by omega) (fun e=>by have:=h6 e;omega) (by omega)
 intro k
 induction k with
 |zero=>exact base
 |succ k ih=>
  intro off cap a l h1 h2 h3 h4 h5 h6 h7 ha
  unfold mpc Lib.splitV
  by_cases hm:(Lib.index l sep == -1)=true
  ·rw[if_pos hm,if_pos hm]
   exact base off cap a l h1 h2 h3 h4 h5 h6 h7 ha
  ·rw[if_neg hm,if_neg hm]
   have hne:Lib.index l sep ≠ -1:=fun e=>hm (beq_iff_eq.2 e)
   have hge:=Lib.index_ge l sep
   have hroom:=Lib.index_room l sep (by omega)
   have hr:(Lib.index l sep).toNat+sep.length<=l.length:=by omega
   clear hroom hge hne hm
   generalize(Lib.index l sep).toNat=i at hr |-
   have ha:a=⟨r.b,off+r.sh-r.lo,none⟩:=ha.resolve_right (by omega)
   subst ha
   refine .cons (.sl hG h1 (by omega) (Nat.le_refl _) (by omega) (fun _=>rfl) (fun e=>by cases e) (by omega) (by omega)) (ih _ _ _ _ (by omega) (by rw[List.length_drop];omega) (by rw[List.length_drop];omega) (by omega)
    (fun e=>by rw[List.length_drop];have:=h5 e;omega) (fun e=>by have:=h6 e;omega) (by omega) ?_)
   unfold Lib.tailAddr
   by_cases hc:cap=i+sep.length
   ·exact .inr (by omega)
   ·rw[if_neg hc,Addr.add_lit]
    exact .inl (by congr 1;omega)
section
variable {P:Program} {ρ:Ren} {B:Nat} {W0:World}
theorem count_nil{b:List UInt8}(h:0<b.length)(a:Addr)(cap k:Nat):Lib.splitV b 0 k a cap []=[.slice (some a) 0 cap]:=Lib.splitV_miss b 0 k a cap [] (by cases b with
 |nil=>simp at h
 |cons=>rfl)
theorem zog{b:List UInt8}(h:0<b.length){loc ver off k:Nat}{c:Bool}:mpc b loc ver c k off []=[.sl loc off 0 1 ver c]:=by
 cases k with
 |zero=>rfl
 |succ k=>
  unfold mpc
  rw[if_pos]
  ·rfl
  ·cases b with
   |nil=>simp at h
   |cons=>rfl
theorem zh9(L:SlLaysP.n7 P ρ)(hm:zeZ B W0 (ρ.g 2)){args:List AV}{h:za}{r:CR}(hg:wT (ρ.t 22) args h=some r):zb2 P B W0 (ρ.f 7) args h r:=by
 intro G us w hx hr hgl
 unfold wT at hg
 split at hg
 ·rename_i x y
  split at hg
  ·rename_i a b h1 h2
   split at hg
   ·rename_i hc
    obtain⟨c0,c1,c2⟩:=hc
    cases hg
    cases hx with
    |cons x1 x2=>cases x2 with
     |cons x3 x4=>
      cases x4
      refine .inl ⟨?_,Go.Proofs.enters_of L.f7 (by kernel_rfl) rfl⟩
      obtain⟨m,hcell⟩:=hm w hgl.low
      have fin:∀ {ps:List AV} {vs:List Value} {q:Nat},VL G ps vs->vs.length<=maxLen->zi9 G B w (.ret (.sl h.length 0 ps.length 1 0 false) (w9 h ps (ρ.t 22))) (.returned (.slice (some ⟨w.heap.size,0,none⟩) vs.length vs.length)) ((w.alloc (.cells vs.toArray (ρ.t 22))).drewN q):=by
       intro ps vs q hv hml
       have hS:=Step.newRow (c:=vs.toArray) (T:=ρ.t 22) (w':=(w.alloc (.cells vs.toArray (ρ.t 22))).drewN q) hr hv (fun p hp=>by simp) (heap_alloc_new w _) (by simp) (fun b hb=>(xw.alloc [] w _).block b hb (by simp)) rfl rfl rfl
       refine⟨_,hS,_,?_,rfl⟩
       have hpl:=hv.length
       rw[<- hr.len,hpl]
       exact .sl (r:=⟨w.heap.size,0,ps.length,vs.toArray.size,0⟩) (by rw[jz];rfl) (Nat.le_refl _) (by show 0+ps.length*1<=ps.length;omega) (Nat.le_refl _) (by show 0+0-0+ps.length*1<=vs.toArray.size;rw[List.size_toArray];omega) (fun e=>by cases e) (fun _=>by show ps.length<=0+ps.length*1;omega) (by omega) (by omega)
      rcases zaT hr h2 x3 with⟨_,rfl⟩|⟨a2,k2,rfl,hk2,hcells2⟩
      ·simp at c0
      rcases zaT hr h1 x1 with⟨rfl,rfl⟩|⟨a1,k1,hu,hk1,hcells1⟩
      ·refine(Any.bytes_Split_nil L (some a2) b.length k2 w (by omega) (by omega) (fun e=>?_)).mono fun e w' ⟨he,hw⟩=>?_
       ·have h0:=hcells2 0 c0
        have e2:=Lib.plain_of_cell (by simpa [Addr.add] using h0)
        obtain⟨b2,o2,s2⟩:=a2
        simp only[Addr.mk.injEq,true_and] at e2
        subst e2
        exact⟨b2,o2,_,rfl,by simpa [Addr.add] using h0⟩
       ·subst he;subst hw
        have hb:wS x [] b=[.qj]:=by cases x1;rfl
        rw[hb]
        exact fin (q:=0) (.cons .qj .nil) (by simp [maxLen])
      ·obtain⟨hcap1,hV⟩:k1<=maxLen/\VL G (wS x a b) (Lib.splitV b 0 (Lib.count a b) a1 k1 a):=by
        have hz:∀ {loc off len sz ver:Nat} {c:Bool},mbs h (.sl loc off len sz ver c)=some a->sz=1:=by
         intro loc off len sz ver c h1
         unfold mbs at h1
         split at h1
         ·contradiction
         ·rename_i heq;cases heq;rfl
         ·cases h1
        cases x1 with
        | @sl loc off len sz ver cap clip r g1 g2 g3 g4 g5 g6 g7 g8 g9=>
         have:=hz h1;subst this
         injection hu with e1 e2 e3
         cases e1
         subst e3;subst e2
         exact⟨g8,zpu g1 c0 _ _ _ _ _ g2 (by omega) (by omega) (by omega) (fun e=>by have:=g6 e;omega) (fun e=>by have:=g7 e;omega) g8 (.inl rfl)⟩
        | @sl0 loc off sz ver o clip r g1 g2 g3 g6 g9=>
         have:=hz h1;subst this
         injection hu with e1 e2 e3
         have ha:a=[]:=List.eq_nil_of_length_eq_zero (by omega)
         subst ha
         cases e1;subst e3
         refine⟨Nat.zero_le _,?_⟩
         rw[count_nil c0]
         show VL G (mpc b loc ver clip (Lib.count [] b) off []) _
         rw[zog c0]
         exact .cons (.sl0 g1 g2 g3 g6 g9) .nil
        |vs=>unfold mbs at h1;cases h1
        |_=>cases hu
       subst hu
       have:=Any.bytes_Split L a1 a2 a.length k1 b.length k2 (a.map fun c=>(c.toNat:Int)) (b.map fun c=>(c.toNat:Int)) m w (by simp) (by simp)
        (fun z hz=>by obtain⟨c,_,rfl⟩:=List.mem_map.1 hz;exact⟨by omega,by have:=c.toNat_lt;omega⟩)
        (fun z hz=>by obtain⟨c,_,rfl⟩:=List.mem_map.1 hz;exact⟨by omega,by have:=c.toNat_lt;omega⟩) hcells1 hcells2 hk1 c1 (by omega) hcap1 (by omega) hcell
       rw[ko,ko] at this
       have hlen:(Lib.splitV b 0 (Lib.count a b) a1 k1 a).length=Lib.count a b+1:=by
        rw[Lib.splitV_length]
        have h:=Lib.splitB_all ⟨b.toArray⟩ c0 0 _ ⟨a.toArray⟩ rfl
        have d:=congrArg List.length (Lib.splitB_data ⟨b.toArray⟩ 0 (Lib.countB ⟨a.toArray⟩ ⟨b.toArray⟩) ⟨a.toArray⟩)
        rw[List.length_map,h] at d
        exact d.symm
       have hcl:Lib.count a b<=a.length:=Lib.countB_le ⟨b.toArray⟩ c0 (⟨a.toArray⟩:ByteArray).size ⟨a.toArray⟩ (Nat.le_refl _)
       rw[<- hlen] at this
       refine this.mono fun e w' ⟨he,q,hw⟩=>?_
       subst he;subst hw
       exact fin hV (by rw[hlen];simp only[maxLen];omega)
   ·cases hg
  ·cases hg
 ·cases hg
end
end Go.Mx
namespace Go.Sx
open Go Go.Gx Go.Mx
variable [qE]
def zgi:CF:=fun R args h κ=>match args with
 | [x,y]=>match zlh .u8 x,reads .u8 y h with
  |some a,some b=>cond (Nat.blt 0 b.length&&(Nat.ble a.length jG&&Nat.ble b.length jG)) (κ (.ret (.gs h.length 0) (h++[.seq (.slc .u8) (Go.Lib.split a b) 0 0]))) none
  |_,_=>none
 |_=>none
theorem zhp{X:Gst}{u:U}{v:SV}{x:AV}{l:List (El u)}(h1:RV X v x)(ht:zlh u v=some l):∃ c,RSl X.h X.Φ c u l x:=by
 unfold zlh at ht
 split at ht
 ·cases ht;cases(show x=_ from h1);exact⟨false,.inl ⟨rfl,rfl⟩⟩
 ·obtain⟨e,e2⟩:=zq ht;subst e;cases e2;exact⟨false,h1⟩
 ·obtain⟨e,e2⟩:=zq ht;subst e;cases e2;exact⟨true,h1.1⟩
 ·obtain⟨e,e2⟩:=zq ht;subst e;cases e2;exact h1
 ·cases ht
theorem zof{X:Gst}{loc ver:Nat}{c:Bool}(hΦ:X.Φ loc){sep:List UInt8}:∀ (k off:Nat) (l:List UInt8) (cs:List AV),rd X.h loc off ver (off+l.length*U.u8.sz) (l.length*U.u8.sz)=some cs->RCs X.h X.Φ .u8 l cs ->
  (mpc sep loc ver c k off l).length=(Go.Lib.splitK sep 0 k l).length/\∀ (i:Nat) (e:List UInt8),(Go.Lib.splitK sep 0 k l)[i]?=some e->∃ x,(mpc sep loc ver c k off l)[i]?=some x/\∃ c',RSl X.h X.Φ c' .u8 e x:=by
 have base:∀ (off:Nat) (l:List UInt8) (cs:List AV),rd X.h loc off ver (off+l.length*U.u8.sz) (l.length*U.u8.sz)=some cs->RCs X.h X.Φ .u8 l cs ->
   ([AV.sl loc off l.length 1 ver c]).length=([l]:List (List UInt8)).length/\∀ (i:Nat) (e:List UInt8),([l]:List (List UInt8))[i]?=some e->∃ x,[AV.sl loc off l.length 1 ver c][i]?=some x/\∃ c',RSl X.h X.Φ c' .u8 e x:=by
  intro off l cs h1 h2
  refine⟨rfl,fun i e hi=>?_⟩
  cases i with
  |zero=>cases hi;exact⟨_,rfl,c,.inr ⟨loc,off,ver,c,cs,rfl,.inl rfl,hΦ,h1,h2⟩⟩
  |succ i=>simp at hi
 intro k
 induction k with
 |zero=>exact base
 |succ k ih=>
  intro off l cs h1 h2
  unfold mpc Go.Lib.splitK
  by_cases hm:(Go.Lib.index l sep == -1)=true
  ·rw[if_pos hm,if_pos hm];exact base off l cs h1 h2
  ·rw[if_neg hm,if_neg hm]
   have hne:Go.Lib.index l sep ≠ -1:=fun e=>hm (beq_iff_eq.2 e)
   have hge:=Go.Lib.index_ge l sep
   have hroom:=Go.Lib.index_room l sep (by omega)
   have hr:(Go.Lib.index l sep).toNat+sep.length<=l.length:=by omega
   clear hroom hge hne hm
   generalize(Go.Lib.index l sep).toNat=i0 at hr |-
   have hp:=RSl.part (X:=X) (c:=true) (c':=true) hΦ h1 h2 (a:=0) (n:=i0) (by omega)
   have hs1:slice l 0 (0+i0)=l.take i0:=by unfold slice;simp
   rw[hs1] at hp
   have hs2:slice l (i0+sep.length) (i0+sep.length+(l.length-(i0+sep.length)))=l.drop (i0+sep.length):=by
    unfold slice
    rw[Nat.add_sub_cancel_left,<- List.length_drop,List.take_length]
   have q2:=h2.slice (a:=i0+sep.length) (n:=l.length-(i0+sep.length)) (by omega)
   rw[hs2] at q2
   have hsz:U.u8.sz=1:=rfl
   have q1:=zkx h1 (o:=(i0+sep.length)*U.u8.sz) (n:=(l.length-(i0+sep.length))*U.u8.sz) (lim':=off+(i0+sep.length)+(l.drop (i0+sep.length)).length*U.u8.sz) (by rw[hsz];omega) (by rw[hsz,List.length_drop];omega)
   obtain⟨g1,g2⟩:=ih (off+(i0+sep.length)) (l.drop (i0+sep.length)) _ (by rw[hsz] at q1 |-;rw[Nat.mul_one] at q1;rw[List.length_drop] at q1 |-;exact q1) (by rw[hsz,Nat.mul_one (i0+sep.length)] at q2;exact q2)
   refine⟨by rw[List.length_cons,List.length_cons,g1],fun i e hi=>?_⟩
   cases i with
   |zero=>
    simp only[List.getElem?_cons_zero,Option.some.injEq] at hi
    subst hi
    exact⟨_,rfl,true,by rw[hsz,Nat.zero_mul,Nat.add_zero] at hp;exact hp⟩
   |succ i=>exact g2 i e (by simpa using hi)
section
variable {P:Program} {gl:GL} {hk:qc} {f:FuncId}
theorem zd5{e:TypeId}(h:hk f=some (wT e)):zd2 P gl hk f zgi:=by
 intro R args κ r X margs hc hargs hr hg
 unfold zgi at hc
 split at hc
 ·rename_i v v2
  obtain⟨x,t,rfl,q1,y,t2,rfl,q2,q3⟩:=hargs
  cases(show t2=[] from q3)
  split at hc
  ·rename_i a b h1 h2
   cases hb:(Nat.blt 0 b.length&&(Nat.ble a.length jG&&Nat.ble b.length jG)) with
   |false=>rw[hb] at hc;cases hc
   |true=>
    rw[hb] at hc
    rw[Bool.and_eq_true,Bool.and_eq_true] at hb
    have k1:=Nat.le_of_ble_eq_true hb.1
    have k2:=Nat.le_of_ble_eq_true hb.2.1
    have k3:=Nat.le_of_ble_eq_true hb.2.2
    unfold jG at k2 k3
    obtain⟨c,hR⟩:=zhp q1 h1
    have hma:mbs X.h x=some a:=by
     rcases hR with⟨rfl,rfl⟩|⟨m,off,ver,c',cs,rfl,_,_,g1,g2⟩
     ·rfl
     ·have e:U.u8.sz=1:=rfl
      rw[e,Nat.mul_one] at g1
      rw[e]
      simp only[mbs,g1]
      rw[RCs.u8 g2]
      exact xr a
    have hps:(wS x a b).length=(Go.Lib.split a b).length/\∀ (i:Nat) (e:List UInt8),(Go.Lib.split a b)[i]?=some e->∃ x',(wS x a b)[i]?=some x'/\∃ c',RSl X.h X.Φ c' .u8 e x':=by
     rcases hR with⟨rfl,rfl⟩|⟨m,off,ver,c',cs,rfl,_,hΦ,g1,g2⟩
     ·have e1:Go.Lib.split [] b=[[]]:=by
       unfold Go.Lib.split
       cases hcn:Go.Lib.count [] b with
       |zero=>rfl
       |succ k=>
        unfold Go.Lib.splitK
        rw[if_pos]
        cases b with
        |nil=>simp at k1
        |cons=>rfl
      rw[e1]
      refine⟨rfl,fun i e hi=>?_⟩
      cases i with
      |zero=>cases hi;exact⟨_,rfl,false,.inl ⟨rfl,rfl⟩⟩
      |succ i=>simp at hi
     ·exact zof hΦ _ _ _ _ g1 g2
    have hcs:RCs X.h X.Φ (.slc .u8) (Go.Lib.split a b) (wS x a b):=by
     refine⟨by rw[hps.1];show _=_*1;rw[Nat.mul_one],fun i e hi=>?_⟩
     obtain⟨x',g1,c',g2⟩:=hps.2 i e hi
     refine zhw.2 ⟨x',?_,c',g2⟩
     unfold part
     show((wS x a b).drop (i*1)).take 1=[x']
     obtain⟨hi1,hi2⟩:=List.getElem?_eq_some_iff.1 g1
     rw[Nat.mul_one,List.drop_eq_getElem_cons hi1,hi2]
     rfl
    obtain⟨Y,h5,h6,h7,h8⟩:=kF hr (u:=.slc .u8) (l:=Go.Lib.split a b) (tt:=some e) (hc:=hcs)
    refine⟨_,Y,.ret (.sl X.h.length 0 (wS x a b).length 1 0 false) (w9 X.h (wS x a b) e),hc,h5,⟨h6,h7,?_⟩,Ev.all fun n=>?_⟩
    ·rw[hps.1];exact h8
    ·simp only[qy,h,wT,hma,zj0 hr q2 h2]
     rw[if_pos ⟨by omega,by omega,by omega⟩]
  ·cases hc
 ·cases hc
end
end Go.Sx
set_option linter.unusedVariables false
set_option linter.unusedSimpArgs false
namespace Go.Mx
open Go Go.Gx Go.Shelf Go.Proofs
def wF:List AV->za->Option CR:=fun args h=>match args with
 | [.str s,.str sep]=>if 2<=sep.length/\s.length<4294967281 then some (.ret (.int .i64 ((Lib.count s sep:Nat):Int)) h) else none
 |_=>none
section
variable {P:Program} {ρ:Ren} {B:Nat} {W0:World}
theorem ziV(L:Lays.n138 P ρ)(hm:zeZ B W0 (ρ.g 1)){args:List AV}{h:za}{r:CR}(hg:wF args h=some r):zb2 P B W0 (ρ.f 138) args h r:=by
 intro G us w hx hr hgl
 unfold wF at hg
 split at hg
 ·rename_i s sep
  split at hg
  ·rename_i hc
   obtain⟨c0,c1⟩:=hc
   cases hg
   cases hx with
   |cons x1 x2=>cases x2 with
    |cons x3 x4=>
     cases x4
     have k1:=xP x1;have k2:=xP x3
     subst k1;subst k2
     refine .inl ⟨?_,Go.Proofs.enters_of L.f138 (by kernel_rfl) rfl⟩
     obtain⟨m,hcell⟩:=hm w hgl.low
     refine(Any.strings_Count L ⟨s.toArray⟩ ⟨sep.toArray⟩ m w (by show s.length<_;omega) hcell (by show 2<=sep.length;omega)).mono fun e w' ⟨he,hw⟩=>?_
     subst he;subst hw
     exact⟨G,.refl hr,_,.int _ _,rfl⟩
  ·cases hg
 ·cases hg
end
end Go.Mx
namespace Go.Sx
open Go Go.Gx Go.Mx
variable [qE]
section
variable {P:Program} {gl:GL} {hk:qc} {f:FuncId}
def zhc:CF:=fun R args h κ=>match args with
 | [.a (.str s),.a (.str sep)]=>cond (Nat.ble 2 sep.length&&Nat.ble s.length jG) (κ (.ret (.a (.int .i64 ((Go.Lib.count s sep:Nat):Int))) h)) none
 |_=>none
theorem zeI(h:hk f=some wF):zd2 P gl hk f zhc:=by
 intro R args κ r X margs hc hargs hr hg
 unfold zhc at hc
 split at hc
 ·rename_i s sep
  obtain⟨x,t,rfl,q1,y,t2,rfl,q2,q3⟩:=hargs
  cases(show t2=[] from q3)
  cases(show x=_ from q1);cases(show y=_ from q2)
  cases hb:(Nat.ble 2 sep.length&&Nat.ble s.length jG) with
  |false=>rw[hb] at hc;cases hc
  |true=>
   rw[hb] at hc
   rw[Bool.and_eq_true] at hb
   have k1:=Nat.le_of_ble_eq_true hb.1
   have k2:=Nat.le_of_ble_eq_true hb.2
   unfold jG at k2
   refine⟨_,X,.ret (.int .i64 ((Go.Lib.count s sep:Nat):Int)) X.h,hc,.refl hr,⟨rfl,rfl,rfl⟩,Ev.all fun n=>?_⟩
   simp only[qy,h,wF]
   rw[if_pos ⟨by omega,by omega⟩]
 ·cases hc
end
end Go.Sx
namespace Go.Sx
open Go Go.Gx Go.Mx
variable [qE]
section
variable (P:Program) (gl:GL) (ct:CT) {R:Type}
end
section
variable {P:Program} {gl:GL} {ct:CT} {hk:qc}
end
end Go.Sx
namespace Go.Proofs.Model
open Go Go.Gx Go.Mx Go.Sx
def zlH:List UInt8:=[0,1,2,2,3,3,3,3,4,4,4,4,4,4,4,4,5,5,5,5,5,5,5,5,5,5,5,5,5,5,5,5,6,6,6,6,6,6,6,6,6,6,6,6,6,6,6,6,6,6,6,6,6,6,6,6,6,6,6,6,6,6,6,6,7,7,7,7,7,7,7,7,7,7,7,7,7,7,7,7,7,7,7,7,7,7,7,7,7,7,7,7,7,7,7,7,7,7,7,7,7,7,7,7,7,7,7,7,7,7,7,7,7,7,7,7,7,7,7,7,7,7,7,7,7,7,7,7,8,8,8,8,8,8,8,8,8,8,8,8,8,8,8,8,8,8,8,8,8,8,8,8,8,8,8,8,8,8,8,8,8,8,8,8,8,8,8,8,8,8,8,8,8,8,8,8,8,8,8,8,8,8,8,8,8,8,8,8,8,8,8,8,8,8,8,8,8,8,8,8,8,8,8,8,8,8,8,8,8,8,8,8,8,8,8,8,8,8,8,8,8,8,8,8,8,8,8,8,8,8,8,8,8,8,8,8,8,8,8,8,8,8,8,8,8,8,8,8,8,8,8,8,8,8,8,8]
def ze:List UInt8:=[48,48,48,49,48,50,48,51,48,52,48,53,48,54,48,55,48,56,48,57,49,48,49,49,49,50,49,51,49,52,49,53,49,54,49,55,49,56,49,57,50,48,50,49,50,50,50,51,50,52,50,53,50,54,50,55,50,56,50,57,51,48,51,49,51,50,51,51,51,52,51,53,51,54,51,55,51,56,51,57,52,48,52,49,52,50,52,51,52,52,52,53,52,54,52,55,52,56,52,57,53,48,53,49,53,50,53,51,53,52,53,53,53,54,53,55,53,56,53,57,54,48,54,49,54,50,54,51,54,52,54,53,54,54,54,55,54,56,54,57,55,48,55,49,55,50,55,51,55,52,55,53,55,54,55,55,55,56,55,57,56,48,56,49,56,50,56,51,56,52,56,53,56,54,56,55,56,56,56,57,57,48,57,49,57,50,57,51,57,52,57,53,57,54,57,55,57,56,57,57]
def kg(N:Nat)(p0:UInt8):Option (Bool×Unit):=
 (cond (p0 != 0) (cond (decide (p0<128)) (cond (p0 != 13) (some ((p0 != 10),())) (some (false,()))) (some (false,()))) (some (false,())))
def qU(N:Nat)(p0:Int):Option ((List UInt8)×Unit):=
 (cond (decide (p0<10)) (cond (zE p0 (IntKind.wrap .i64 (p0+1)) 36) (some ((slice [48,49,50,51,52,53,54,55,56,57,97,98,99,100,101,102,103,104,105,106,107,108,109,110,111,112,113,114,115,116,117,118,119,120,121,122] (Int.toNat p0) (Int.toNat (IntKind.wrap .i64 (p0+1)))),())) none) (cond (zE (IntKind.wrap .i64 (p0*2)) (IntKind.wrap .i64 ((IntKind.wrap .i64 (p0*2))+2)) 200) (some ((slice [48,48,48,49,48,50,48,51,48,52,48,53,48,54,48,55,48,56,48,57,49,48,49,49,49,50,49,51,49,52,49,53,49,54,49,55,49,56,49,57,50,48,50,49,50,50,50,51,50,52,50,53,50,54,50,55,50,56,50,57,51,48,51,49,51,50,51,51,51,52,51,53,51,54,51,55,51,56,51,57,52,48,52,49,52,50,52,51,52,52,52,53,52,54,52,55,52,56,52,57,53,48,53,49,53,50,53,51,53,52,53,53,53,54,53,55,53,56,53,57,54,48,54,49,54,50,54,51,54,52,54,53,54,54,54,55,54,56,54,57,55,48,55,49,55,50,55,51,55,52,55,53,55,54,55,55,55,56,55,57,56,48,56,49,56,50,56,51,56,52,56,53,56,54,56,55,56,56,56,57,57,48,57,49,57,50,57,51,57,52,57,53,57,54,57,55,57,56,57,57] (Int.toNat (IntKind.wrap .i64 (p0*2))) (Int.toNat (IntKind.wrap .i64 ((IntKind.wrap .i64 (p0*2))+2)))),())) none))
def qx(N:Nat)(p0:Int):Option (Int×Unit):=
 (cond (decide (4294967296<=p0)) (cond (decide (65536<=(Int.fdiv p0 (2 ^ (min (Int.toNat 32) (IntKind.bits .u64)))))) (cond (decide (256<=(Int.fdiv (Int.fdiv p0 (2 ^ (min (Int.toNat 32) (IntKind.bits .u64)))) (2 ^ (min (Int.toNat 16) (IntKind.bits .u64)))))) (cond (inb ((UInt8.toNat (jc (Int.fdiv (Int.fdiv (Int.fdiv p0 (2 ^ (min (Int.toNat 32) (IntKind.bits .u64)))) (2 ^ (min (Int.toNat 16) (IntKind.bits .u64)))) (2 ^ (min (Int.toNat 8) (IntKind.bits .u64))))):Nat):Int) 256) (some ((IntKind.wrap .i64 (56+(IntKind.wrap .i64 ((UInt8.toNat (nth .u8 zlH (Int.toNat ((UInt8.toNat (jc (Int.fdiv (Int.fdiv (Int.fdiv p0 (2 ^ (min (Int.toNat 32) (IntKind.bits .u64)))) (2 ^ (min (Int.toNat 16) (IntKind.bits .u64)))) (2 ^ (min (Int.toNat 8) (IntKind.bits .u64))))):Nat):Int))):Nat):Int)))),())) none) (cond (inb ((UInt8.toNat (jc (Int.fdiv (Int.fdiv p0 (2 ^ (min (Int.toNat 32) (IntKind.bits .u64)))) (2 ^ (min (Int.toNat 16) (IntKind.bits .u64))))):Nat):Int) 256) (some ((IntKind.wrap .i64 (48+(IntKind.wrap .i64 ((UInt8.toNat (nth .u8 zlH (Int.toNat ((UInt8.toNat (jc (Int.fdiv (Int.fdiv p0 (2 ^ (min (Int.toNat 32) (IntKind.bits .u64)))) (2 ^ (min (Int.toNat 16) (IntKind.bits .u64))))):Nat):Int))):Nat):Int)))),())) none)) (cond (decide (256<=(Int.fdiv p0 (2 ^ (min (Int.toNat 32) (IntKind.bits .u64)))))) (cond (inb ((UInt8.toNat (jc (Int.fdiv (Int.fdiv p0 (2 ^ (min (Int.toNat 32) (IntKind.bits .u64)))) (2 ^ (min (Int.toNat 8) (IntKind.bits .u64))))):Nat):Int) 256) (some ((IntKind.wrap .i64 (40+(IntKind.wrap .i64 ((UInt8.toNat (nth .u8 zlH (Int.toNat ((UInt8.toNat (jc (Int.fdiv (Int.fdiv p0 (2 ^ (min (Int.toNat 32) (IntKind.bits .u64)))) (2 ^ (min (Int.toNat 8) (IntKind.bits .u64))))):Nat):Int))):Nat):Int)))),())) none) (cond (inb ((UInt8.toNat (jc (Int.fdiv p0 (2 ^ (min (Int.toNat 32) (IntKind.bits .u64))))):Nat):Int) 256) (some ((IntKind.wrap .i64 (32+(IntKind.wrap .i64 ((UInt8.toNat (nth .u8 zlH (Int.toNat ((UInt8.toNat (jc (Int.fdiv p0 (2 ^ (min (Int.toNat 32) (IntKind.bits .u64))))):Nat):Int))):Nat):Int)))),())) none))) (cond (decide (65536<=p0)) (cond (decide (256<=(Int.fdiv p0 (2 ^ (min (Int.toNat 16) (IntKind.bits .u64)))))) (cond (inb ((UInt8.toNat (jc (Int.fdiv (Int.fdiv p0 (2 ^ (min (Int.toNat 16) (IntKind.bits .u64)))) (2 ^ (min (Int.toNat 8) (IntKind.bits .u64))))):Nat):Int) 256) (some ((IntKind.wrap .i64 (24+(IntKind.wrap .i64 ((UInt8.toNat (nth .u8 zlH (Int.toNat ((UInt8.toNat (jc (Int.fdiv (Int.fdiv p0 (2 ^ (min (Int.toNat 16) (IntKind.bits .u64)))) (2 ^ (min (Int.toNat 8) (IntKind.bits .u64))))):Nat):Int))):Nat):Int)))),())) none) (cond (inb ((UInt8.toNat (jc (Int.fdiv p0 (2 ^ (min (Int.toNat 16) (IntKind.bits .u64))))):Nat):Int) 256) (some ((IntKind.wrap .i64 (16+(IntKind.wrap .i64 ((UInt8.toNat (nth .u8 zlH (Int.toNat ((UInt8.toNat (jc (Int.fdiv p0 (2 ^ (min (Int.toNat 16) (IntKind.bits .u64))))):Nat):Int))):Nat):Int)))),())) none)) (cond (decide (256<=p0)) (cond (inb ((UInt8.toNat (jc (Int.fdiv p0 (2 ^ (min (Int.toNat 8) (IntKind.bits .u64))))):Nat):Int) 256) (some ((IntKind.wrap .i64 (8+(IntKind.wrap .i64 ((UInt8.toNat (nth .u8 zlH (Int.toNat ((UInt8.toNat (jc (Int.fdiv p0 (2 ^ (min (Int.toNat 8) (IntKind.bits .u64))))):Nat):Int))):Nat):Int)))),())) none) (cond (inb ((UInt8.toNat (jc p0):Nat):Int) 256) (some ((IntKind.wrap .i64 (0+(IntKind.wrap .i64 ((UInt8.toNat (nth .u8 zlH (Int.toNat ((UInt8.toNat (jc p0):Nat):Int))):Nat):Int)))),())) none))))
def qL(N:Nat)(p0:Int):Option (Int×Unit):=
 (some ((Int.fdiv (IntKind.wrap .i64 (p0*78913)) (2 ^ (min (Int.toNat 18) (IntKind.bits .i64)))),()))
def qK(N:Nat)(p0:Bool):Option (Int×Unit):=
 (cond p0 (some (1,())) (some (0,())))
def zf(N:Nat)(p0:Int):Option (Int×Unit):=
 (Option.bind (qx N p0) fun y1=>(Option.bind (qL N y1.1) fun y2=>(cond ((inb y2.1 20)&&(inb y2.1 20)) (Option.bind (qK N (decide ((nth (.int .u64) ([1,10,100,1000,10000,100000,1000000,10000000,100000000,1000000000,10000000000,100000000000,1000000000000,10000000000000,100000000000000,1000000000000000,10000000000000000,100000000000000000,1000000000000000000,10000000000000000000]:List Int) (Int.toNat y2.1))<=p0))) fun y3=>(some ((IntKind.wrap .i64 (y2.1+y3.1)),()))) none)))
def jw(N:Nat)(p0:UInt8):Option (Bool×Unit):=
 (cond (decide (0<p0)) (cond (decide (p0<128)) (cond (p0 != 10) (some ((p0 != 13),())) (some (false,()))) (some (false,()))) (some (false,())))
def jL(N:Nat){R:Type}(x2:Int)(x3:List UInt8)(rec_:(Int)->(List UInt8)->Option R)(o0:(Int)->(List UInt8)->Option R):Option R:=
 (cond (decide ((10:Int)<=x2)) (cond (zE (Int.tmod x2 (10:Int)) (IntKind.wrap .u32 ((Int.tmod x2 (10:Int))+(1:Int))) 10) (cond (decide (List.length (slice ([48,49,50,51,52,53,54,55,56,57]:List UInt8) (Int.toNat (Int.tmod x2 (10:Int))) (Int.toNat (IntKind.wrap .u32 ((Int.tmod x2 (10:Int))+(1:Int)))))+List.length x3<4611686018427387904)) (rec_ (IntKind.wrap .u32 (Int.tdiv x2 (10:Int))) ((slice ([48,49,50,51,52,53,54,55,56,57]:List UInt8) (Int.toNat (Int.tmod x2 (10:Int))) (Int.toNat (IntKind.wrap .u32 ((Int.tmod x2 (10:Int))+(1:Int)))))++x3)) none) none) (o0 x2 x3))
def zG(N:Nat):Nat->(Int)->(List UInt8)->Option ((Int)×(List UInt8))
 |0,_,_=>none
 |m+1,x2,x3=>jL N x2 x3 (zG N m) (fun v0 v1=>some (v0,v1))
def qR(N:Nat)(p0:Int):Option ((List UInt8)×Unit):=
 (Option.bind (zG N N p0 ([]:List UInt8)) fun o5=>(cond (zE o5.1 (IntKind.wrap .u32 (o5.1+1)) 10) (cond (decide (List.length (slice ([48,49,50,51,52,53,54,55,56,57]:List UInt8) (Int.toNat o5.1) (Int.toNat (IntKind.wrap .u32 (o5.1+1))))+List.length o5.2<4611686018427387904)) (some (((slice ([48,49,50,51,52,53,54,55,56,57]:List UInt8) (Int.toNat o5.1) (Int.toNat (IntKind.wrap .u32 (o5.1+1))))++o5.2),())) none) none))

def jJ(N:Nat){R:Type}(x12:List UInt8)(x13:Int)(x14:Int)(x15:List UInt8)(rec_:(List UInt8)->(Int)->(Int)->(List UInt8)->Option R)(o0:(List UInt8)->Option R)(o1:(List UInt8)->Option R):Option R:=
 (cond (decide (x14<x13)) (cond (inb x14 (List.length x12)) (Option.bind (kg N (nth .u8 x12 (Int.toNat x14))) fun y18=>(cond (!y18.1) (o0 x15) (cond ((nth .u8 x12 (Int.toNat x14))==(34:UInt8)) (cond (Nat.blt ((List.length x15)+1) qw) (cond (Nat.blt ((List.length (x15++([(92:UInt8)]:List UInt8)))+1) qw) (rec_ x12 x13 (IntKind.wrap .i64 (x14+(1:Int))) ((x15++([(92:UInt8)]:List UInt8))++([(nth .u8 x12 (Int.toNat x14))]:List UInt8))) none) none) (cond ((nth .u8 x12 (Int.toNat x14))==(92:UInt8)) (cond (Nat.blt ((List.length x15)+1) qw) (cond (Nat.blt ((List.length (x15++([(92:UInt8)]:List UInt8)))+1) qw) (rec_ x12 x13 (IntKind.wrap .i64 (x14+(1:Int))) ((x15++([(92:UInt8)]:List UInt8))++([(nth .u8 x12 (Int.toNat x14))]:List UInt8))) none) none) (cond (Nat.blt ((List.length x15)+1) qw) (rec_ x12 x13 (IntKind.wrap .i64 (x14+(1:Int))) (x15++([(nth .u8 x12 (Int.toNat x14))]:List UInt8))) none))))) none) (o1 x15))
def zF(N:Nat):Nat->(List UInt8)->(Int)->(Int)->(List UInt8)->Option (((List UInt8)) ⊕ ((List UInt8)))
 |0,_,_,_,_=>none
 |m+1,x12,x13,x14,x15=>jJ N x12 x13 x14 x15 (zF N m) (fun v0=>some (Sum.inl v0)) (fun v0=>some (Sum.inr v0))
def jn(N:Nat)(p0:(List UInt8)):Option ((List UInt8)×Bool×Unit):=
 (Option.bind (zF N N p0 (((List.length p0):Nat):Int) (0:Int) ([(34:UInt8)]:List UInt8)) fun o23=>(zbG o23 (fun a24=>(some (([]:List UInt8),false,()))) (fun b25=>(cond (Nat.blt ((List.length b25)+1) qw) (cond (Nat.blt 0 (List.length (b25++([(34:UInt8)]:List UInt8)))) (cond (decide ((((List.length (b25++([(34:UInt8)]:List UInt8))):Nat):Int)=(((List.length (b25++([(34:UInt8)]:List UInt8))):Nat):Int))&&(Nat.blt 0 (List.length (b25++([(34:UInt8)]:List UInt8)))&&Nat.blt (List.length (b25++([(34:UInt8)]:List UInt8))) qw)) (some ((b25++([(34:UInt8)]:List UInt8)),true,())) none) none) none))))
def wh(N:Nat){R:Type}(x3:List UInt8)(x4:List UInt8)(x5:Int)(rec_:(List UInt8)->(List UInt8)->(Int)->Option R)(o0:Unit->Option R)(o1:(List UInt8)->Option R):Option R:=
 (cond (decide (x5<(((List.length x3):Nat):Int))) (cond (inb x5 (List.length x3)) (Option.bind (jw N (nth .u8 x3 (Int.toNat x5))) fun y8=>(cond (!y8.1) (o0 ()) (cond (inb x5 (List.length x3)) (cond ((nth .u8 x3 (Int.toNat x5))==(34:UInt8)) (cond (decide (List.length x4+List.length ([92]:List UInt8)<4611686018427387904)) (cond ((zE x5 (IntKind.wrap .i64 (x5+(1:Int))) (List.length x3))&&true) (cond (decide (List.length (x4++([92]:List UInt8))+List.length (slice x3 (Int.toNat x5) (Int.toNat (IntKind.wrap .i64 (x5+(1:Int)))))<4611686018427387904)) (rec_ x3 ((x4++([92]:List UInt8))++(slice x3 (Int.toNat x5) (Int.toNat (IntKind.wrap .i64 (x5+(1:Int)))))) (IntKind.wrap .i64 (x5+(1:Int)))) none) none) none) (cond (inb x5 (List.length x3)) (cond ((nth .u8 x3 (Int.toNat x5))==(92:UInt8)) (cond (decide (List.length x4+List.length ([92]:List UInt8)<4611686018427387904)) (cond ((zE x5 (IntKind.wrap .i64 (x5+(1:Int))) (List.length x3))&&true) (cond (decide (List.length (x4++([92]:List UInt8))+List.length (slice x3 (Int.toNat x5) (Int.toNat (IntKind.wrap .i64 (x5+(1:Int)))))<4611686018427387904)) (rec_ x3 ((x4++([92]:List UInt8))++(slice x3 (Int.toNat x5) (Int.toNat (IntKind.wrap .i64 (x5+(1:Int)))))) (IntKind.wrap .i64 (x5+(1:Int)))) none) none) none) (cond ((zE x5 (IntKind.wrap .i64 (x5+(1:Int))) (List.length x3))&&true) (cond (decide (List.length x4+List.length (slice x3 (Int.toNat x5) (Int.toNat (IntKind.wrap .i64 (x5+(1:Int)))))<4611686018427387904)) (rec_ x3 (x4++(slice x3 (Int.toNat x5) (Int.toNat (IntKind.wrap .i64 (x5+(1:Int)))))) (IntKind.wrap .i64 (x5+(1:Int)))) none) none)) none)) none))) none) (o1 x4))
def zP(N:Nat):Nat->(List UInt8)->(List UInt8)->(Int)->Option ((Unit) ⊕ ((List UInt8)))
 |0,_,_,_=>none
 |m+1,x3,x4,x5=>wh N x3 x4 x5 (zP N m) (fun _=>some (Sum.inl ())) (fun v0=>some (Sum.inr v0))
def jo(N:Nat)(p0:(List UInt8)):Option ((List UInt8)×Bool×Unit):=
 (Option.bind (zP N N p0 ([34]:List UInt8) (0:Int)) fun o13=>(zbG o13 (fun a14=>(some (([]:List UInt8),false,()))) (fun b15=>(cond (decide (List.length b15+List.length ([34]:List UInt8)<4611686018427387904)) (some ((b15++([34]:List UInt8)),true,())) none))))

end Go.Proofs.Model
