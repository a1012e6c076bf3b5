/- The machines and the plain laws, part 6. -/
import Derived.Test.YtlfojfedfhpoiaaGreatDoorB5
import Derived.KernelRfl
import Derived.Lib.Join
set_option linter.unusedVariables false
set_option linter.unusedSectionVars false
set_option linter.unusedSimpArgs false
set_option maxRecDepth 100000
namespace Go.Sx
open Go Go.Gx Go.Mx
variable [jb]
def ztA(u:U)(rs:List U):SC->Option (El u×El (xg rs))
 |.ret v h=>match unS rs v with
  |some vs=>match qU rs vs h with
   |some (y,h1)=>match(h1[0]?:Option SB) with
    |some (.cells cs 0 _)=>match dec u cs h1 with
     |some (x,[],h2)=>match(h2[0]?:Option SB) with
      |some (.cells _ 0 _)=>some (x,y)
      |_=>none
     |_=>none
    |_=>none
   |none=>none
  |none=>none
 |.pan _ _=>none
def zpK(u:U)(us rs:List U)(F:El u->El (xg us)->Option (El u×El (xg rs))):CF:=fun R args h κ=>match args with
 |.ptr loc 0 lim::args=>match Nat.beq lim u.sz,qU us args h with
  |true,some (y,h1)=>match h1[loc]? with
   |some (.cells cs 0 _)=>match dec u cs h1 with
    |some (x,[],h2)=>match h2[loc]? with
     |some (.cells _ 0 _)=>(F x y).bind fun p=>κ (.ret (zlg (qu rs p.2)) (h2.set loc (.cells (enc u p.1) 0)))
     |_=>none
    |_=>none
   |_=>none
  |_,_=>none
 |_=>none
section
variable {P:Program} {gl:GL} {ct:CT} {hk:qT}
theorem zru{rs:List U}{v:SV}{vs:List SV}{Z:Gst}{xv:AV}(hvs:unS rs v=some vs)(hv:RV Z v xv)(y:El (xg rs)):
  ∃ xs,RVs Z vs xs/\∀ W,(RVs W (qu rs y) xs->RV W (zlg (qu rs y)) xv):=by
 unfold unS at hvs
 split at hvs
 ·cases hvs
  exact⟨[xv],.one hv,fun W ⟨a,t,e,q,ht⟩=>by cases e;exact q⟩
 ·rename_i hrs
  split at hvs
  ·cases hvs
   obtain⟨l',rfl,q⟩:=hv
   refine⟨l',q,fun W hW=>?_⟩
   have:zlg (qu rs y)=.tup (qu rs y):=by
    match rs,y,hrs with
    | [],_,_=>rfl
    | [u],_,hrs=>exact absurd rfl (hrs u)
    |_::_::_,_,_=>rfl
   rw[this];exact⟨l',rfl,hW⟩
  ·cases hvs
theorem zek{X:Gst}(hr:RH X){loc md:Nat}{cs:List SV}{mk:Option TypeId}(h:X.sh[loc]?=some (.cells cs md mk)):∃ m l tt,X.σ[loc]?=some (some (m,0))/\X.h[m]?=some (.row l 0 0 0 false tt)/\RVs X cs l:=by
 have hl:loc<X.σ.length:=by rw[hr.len];exact(List.getElem?_eq_some_iff.1 h).1
 obtain⟨m,l,tt,e,h1,h2⟩:=hr.blk loc _ _ h (List.getElem?_eq_getElem hl)
 exact⟨m,l,mk.or tt,by rw[List.getElem?_eq_getElem hl,e],h1,h2⟩
theorem ziZ{f:FuncId}{u:U}{us rs:List U}{F:El u->El (xg us)->Option (El u×El (xg rs))}{run:CF}(hrun:zft P gl hk f run)
  (hF:∀ x y,run _ (.ptr 0 0 u.sz::qu us y) [.cells (enc u x) 0] (ztA u rs)=F x y):zft P gl hk f (zpK u us rs F):=by
 intro R args κ r X margs h hargs hr hg
 unfold zpK at h
 split at h
 ·rename_i loc lim args'
  obtain⟨x0,xs,rfl,⟨m,⟨v0,hat⟩,rfl⟩,hargs⟩:=hargs
  split at h
  ·rename_i y h1 hlim hd1
   have hlim:=Nat.eq_of_beq_eq_true hlim
   subst hlim
   split at h
   ·rename_i cs hcs
    split at h
    ·rename_i x h2 hd2
     split at h
     ·rename_i cs2 hcs2
      obtain⟨Y1,S1,hh1,hs1,hA1⟩:=qJ us hr hargs hd1
      rw[<- hs1] at hcs hd2
      obtain⟨m1,l1,tt1,e1,g1,q1⟩:=zek S1.hr hcs
      obtain⟨v1,e1'⟩:=S1.le.at_ loc m v0 hat
      rw[e1] at e1';cases e1'
      obtain⟨Y2,c1,c2,S2,hh2,hs2,ec,hRE,hc2⟩:=kV u S1.hr q1 hd2
      cases(show c2=[] from hc2)
      rw[List.append_nil] at ec
      subst ec
      rw[<- hs2] at hcs2 h
      obtain⟨v2,e2'⟩:=S2.le.at_ loc m 0 e1
      obtain⟨m2,l2,tt2,e2,g2,q2⟩:=zek S2.hr hcs2
      rw[e2] at e2';cases e2'
      rw[hh2] at g2
      rw[g1] at g2;cases g2
      have hnΦ:¬ Y2.Φ m:=fun hΦ=>(S2.hr.own loc m 0 _ hcs2 e2 hΦ).elim (fun e=>by cases e) (fun e=>by cases e)
      have hrow:Y2.h[m]?=some (.row l1 0 0 0 false tt1):=by rw[hh2];exact g1
      have hbσ:∀ (i m' v':Nat),([some (m,0)]:List (Option (Nat×Nat)))[i]?=some (some (m',v'))->i=0/\m'=m/\v'=0:=by
       intro i m' v' hi
       cases i with
       |zero=>simp at hi;exact⟨rfl,hi.1.symm,hi.2.symm⟩
       |succ i=>simp at hi
      have hbs:∀ (i:Nat) (b:SB),([.cells (enc u x) 0]:SH)[i]?=some b->i=0/\b=.cells (enc u x) 0:=by
       intro i b hi
       cases i with
       |zero=>simp at hi;exact⟨rfl,hi.symm⟩
       |succ i=>simp at hi
      have hB:RH (⟨Y2.h,Y2.Φ,[some (m,0)],[.cells (enc u x) 0]⟩:Gst):=by
       refine⟨rfl,fun i j m' v v' h1 h2=>by rw[(hbσ i m' v h1).1,(hbσ j m' v' h2).1],fun i m' v h1=>?_,S2.hr.Φlt,fun i b o h1 h2=>?_,fun i m' v b h1 h2 h3=>?_⟩
       ·rw[(hbσ i m' v h1).2.1];exact S2.hr.lt loc m 0 e2
       ·obtain⟨rfl,rfl⟩:=hbs i b h1
        have h2:o=some (m,0):=by simpa using h2.symm
        subst h2
        exact⟨m,l1,tt1,rfl,hrow,j4 hRE⟩
       ·rw[(hbσ i m' v h2).2.1] at h3;exact absurd h3 hnΦ
      have hgB:RGl P gl (⟨Y2.h,Y2.Φ,[some (m,0)],[.cells (enc u x) 0]⟩:Gst):=fun g cs hg'=>((hg.le S1.le).le S2.le) g cs hg'
      have hargsB:RVs (⟨Y2.h,Y2.Φ,[some (m,0)],[.cells (enc u x) 0]⟩:Gst) (.ptr 0 0 u.sz::qu us y) (.ptr m 0 0 u.sz::xs):=
       ⟨_,_,rfl,⟨m,⟨0,rfl⟩,rfl⟩,hA1 _ hh2 fun m' hm=>S2.le.Φ m' hm⟩
      cases hFx:F x y with
      |none=>rw[hFx] at h;cases h
      |some p=>
       rw[hFx] at h
       rw[<- hF x y] at hFx
       obtain⟨q,Z,mq,k1,S3,hcr,ev⟩:=hrun _ _ _ _ _ _ hFx hargsB hB hgB
       cases q with
       |pan v sh=>cases k1
       |ret v sh=>
        cases mq with
        |pan=>cases hcr
        |ret xv hv'=>
         obtain⟨z1,z2,hv⟩:=hcr
         simp only[ztA] at k1
         split at k1
         ·rename_i vs hvs
          split at k1
          ·rename_i y' h3 hd3
           split at k1
           ·rename_i cs3 hcs3
            split at k1
            ·rename_i x' h4 hd4
             split at k1
             ·rename_i cs4 hcs4
              cases k1
              rw[<- z1] at hd3
              obtain⟨ys,hys,hone⟩:=zru hvs hv y'
              obtain⟨Z1,S4,hh3,hs3,hA3⟩:=qJ rs S3.hr hys hd3
              rw[<- hs3] at hcs3 hd4
              obtain⟨m3,l3,tt3,e3,g3,q3⟩:=zek S4.hr hcs3
              obtain⟨v3,e3'⟩:=S4.le.at_ 0 m _ (S3.le.at_ 0 m 0 rfl).choose_spec
              rw[e3] at e3';cases e3'
              obtain⟨Z2,d1,d2,S5,hh4,hs4,ed,hRE2,hd2'⟩:=kV u S4.hr q3 hd4
              cases(show d2=[] from hd2')
              rw[List.append_nil] at ed
              subst ed
              rw[<- hs4] at hcs4
              obtain⟨m4,l4,tt4,e4,g4,q4⟩:=zek S5.hr hcs4
              obtain⟨v4,e4'⟩:=S5.le.at_ 0 m 0 e3
              rw[e4] at e4';cases e4'
              rw[hh4,g3] at g4;cases g4
              have hnΦ2:¬ Z2.Φ m:=fun hΦ=>(S5.hr.own 0 m 0 _ hcs4 e4 hΦ).elim (fun e=>by cases e) (fun e=>by cases e)
              have hrow2:Z2.h[m]?=some (.row l3 0 0 0 false tt3):=by rw[hh4];exact g3
              have S6:=(S3.trans S4).trans S5
              have hsame:∀ m',m'<Y2.h.length->m'≠m->Z2.h[m']?=Y2.h[m']?:=fun m' hm hne=>S6.fm.h m' hm fun i v b hb hσ=>absurd (hbσ i m' v hσ).2.1 hne
              have hphi:∀ m',m'<Y2.h.length->Z2.Φ m'->Y2.Φ m':=fun m' hm hΦ=>(S6.fm.phi m' hm hΦ).elim id fun⟨i,v,b,hb,hσ,_⟩=>by
               rw[(hbσ i m' v hσ).2.1] at hΦ;exact absurd hΦ hnΦ2
              have hloc:loc<Y2.sh.length:=(List.getElem?_eq_some_iff.1 hcs2).1
              have hle:Y2.le ⟨Z2.h,Z2.Φ,Y2.σ,Y2.sh.set loc (.cells (enc u x') 0)⟩:=by
               refine⟨fun m' hm=>hsame m' (S2.hr.Φlt m' hm) fun e=>hnΦ (e ▸ hm),S6.le.Φ,Nat.le_refl _,fun _ _ v h=>⟨v,h⟩,fun i w l k md hi hs=>?_,S2.hr.len⟩
               rcases zz hs with⟨_,e⟩|⟨_,hs⟩
               ·cases e
               ·exact⟨l,k,md,hs,Nat.le_refl _,fun _=>⟨rfl,rfl⟩⟩
              have hW:RVs (⟨Z2.h,Z2.Φ,Y2.σ,Y2.sh.set loc (.cells (enc u x') 0)⟩:Gst) (enc u x') l3:=j4 hRE2
              have S7:Stp Y2 ⟨Z2.h,Z2.Φ,Y2.σ,Y2.sh.set loc (.cells (enc u x') 0)⟩:=by
               refine⟨hle,⟨by rw[List.length_set];exact S2.hr.len,S2.hr.inj,fun i m' v h=>Nat.lt_of_lt_of_le (S2.hr.lt i m' v h) S6.fm.len,S5.hr.Φlt,fun i b o hb ho=>?_,fun i m' v b hb ho hΦ=>?_⟩,
                ⟨S6.fm.len,fun m' hm hx=>hsame m' hm fun e=>?_,fun i b hb hm=>?_,fun i m' v h _=>⟨v,h⟩,fun i hgn=>?_,fun m' hm hΦ=>.inl (hphi m' hm hΦ)⟩⟩
               ·rcases zz hb with⟨rfl,rfl⟩|⟨hne,hb⟩
                ·rw[e2] at ho;cases ho
                 exact⟨m,l3,tt3,rfl,hrow2,hW⟩
                ·refine(S2.hr.blk i b o hb ho).le hle fun m' v e=>hsame m' (S2.hr.lt i m' v (e ▸ ho)) fun em=>?_
                 subst e;subst em
                 exact hne (S2.hr.inj i loc _ _ _ ho e2)
               ·rcases zz hb with⟨rfl,rfl⟩|⟨hne,hb⟩
                ·rw[e2] at ho;cases ho
                 exact absurd hΦ hnΦ2
                ·exact S2.hr.own i m' v b hb ho (hphi m' (S2.hr.lt i m' v ho) hΦ)
               ·subst e
                exact absurd rfl (hx loc 0 _ hcs2 e2)
               ·have hne:i≠loc:=fun e=>by subst e;rw[hcs2] at hb;cases hb;exact hm rfl
                exact⟨b,by rw[List.getElem?_set_ne (Ne.symm hne)];exact hb,hm⟩
               ·have hne:i≠loc:=fun e=>by subst e;rw[hcs2] at hgn;cases hgn
                exact⟨by rw[List.getElem?_set_ne (Ne.symm hne)];exact hgn,rfl⟩
              refine⟨_,_,.ret xv hv',h,(S1.trans S2).trans S7,⟨rfl,?_,hone _ (hA3 _ (by rw[<- hh4]) fun m' hm=>S5.le.Φ m' hm)⟩,?_⟩
              ·show Z2.h=hv';rw[hh4,hh3,z2]
              ·rw[<- hh1,<- hh2];exact ev
             ·cases k1
            ·cases k1
           ·cases k1
          ·cases k1
         ·cases k1
     ·cases h
    ·cases h
   ·cases h
  ·cases h
 ·cases h
theorem fnP{T:FT}{al:List FuncId}(hh:zoc P hk al)(hT:ziO P gl hk T){f:FuncId}{u:U}{us rs:List U}{F:El u->El (xg us)->Option (El u×El (xg rs))}(pl:Pl){fn:Func}(hf:P.funcs[f]?=some fn){ls:List (Code×LF)}(hs:zaL P gl hk ls)
  (ha:(al.all fun f=>zlJ T f)=true:=by rfl) (n:Nat:=1500) (h:(match fn.body with|some b=>zE P pl b|none=>none)=some ls:=by kernel_rfl)
  (hF:∀ x y,wx P gl (zet T) n pl f (.ptr 0 0 u.sz::qu us y) [.cells (enc u x) 0] (ztA u rs)=F x y:=by intro x y;kernel_rfl):ziO P gl hk ((f,zpK u us rs F)::T):=
 ⟨ziZ (run:=fun R args h κ=>wx P gl (zet T) (R:=R) n pl f args h κ) ((zdr (zqt hh ha hT) n).2.2.1 pl f (ze6 hf h hs)) hF,hT⟩
def ztz(u:U)(rs:List U):SC->Option (List (El u)×El (xg rs))
 |.ret v h=>match unS (.sl u::rs) v with
  |some (v0::vs)=>match qU rs vs h with
   |some (y,h1)=>match v0 with
    |.a .qZ=>some ([],y)
    |.gs loc n=>match(h1[loc]?:Option SB) with
     |some (.seq u' l k 0)=>match Nat.beq n k,kl u' u l with
      |true,some l'=>some (l',y)
      |_,_=>none
     |_=>none
    |_=>none
   |none=>none
  |_=>none
 |.pan _ _=>none
def zs2(u:U)(us rs:List U)(F:El (xg us)->Option (List (El u)×El (xg rs))):CF:=fun R args h κ=>match qU us args h with
 |some (x,h')=>(F x).bind fun p=>κ (.ret (zlg (.gs h'.length 0::qu rs p.2)) (h'++[.seq u p.1 0 0]))
 |none=>none
theorem zpu{u:U}{rs:List U}{v:SV}{vs:List SV}{Z:Gst}{xv:AV}(hvs:unS (.sl u::rs) v=some vs)(hv:RV Z v xv):
  ∃ xs,RVs Z vs xs/\∀ (W:Gst) (w:SV) (ws:List SV),(rs=[]->ws=[])->(rs≠[]->ws≠[])->RVs W (w::ws) xs->RV W (zlg (w::ws)) xv:=by
 cases rs with
 |nil=>
  cases hvs
  refine⟨[xv],.one hv,fun W w ws h1 _ ⟨a,t,e,q,ht⟩=>?_⟩
  rw[h1 rfl];cases e;exact q
 |cons u2 rs=>
  simp only[unS] at hvs
  split at hvs
  ·cases hvs
   obtain⟨l',rfl,q⟩:=hv
   refine⟨l',q,fun W w ws _ h2 hW=>?_⟩
   have:=h2 (by simp)
   cases ws with
   |nil=>exact absurd rfl this
   |cons w2 ws=>exact⟨l',rfl,hW⟩
  ·cases hvs
theorem zc7:∀ (rs:List U) (y:El (xg rs)),(qu rs y).length=rs.length
 | [],_=>rfl
 |_::rs,y=>by simp [qu,zc7 rs y.2]
theorem ziY{f:FuncId}{u:U}{us rs:List U}{F:El (xg us)->Option (List (El u)×El (xg rs))}{run:CF}(hrun:zft P gl hk f run)
  (hF:∀ x,run _ (qu us x) [] (ztz u rs)=F x):zft P gl hk f (zs2 u us rs F):=by
 intro R args κ r X margs h hargs hr hg
 unfold zs2 at h
 split at h
 ·rename_i x h' hd
  obtain⟨Y,S1,hh1,hs1,hA⟩:=qJ us hr hargs hd
  cases hFx:F x with
  |none=>rw[hFx] at h;cases h
  |some p=>
   obtain⟨l,y⟩:=p
   rw[hFx] at h
   have hY:RH Y.base:=⟨rfl,fun i j m v v' h=>by simp [Gst.base] at h,fun i m v h=>by simp [Gst.base] at h,S1.hr.Φlt,fun i b o h=>by simp [Gst.base] at h,fun i m v b h=>by simp [Gst.base] at h⟩
   have hgY:RGl P gl Y.base:=fun g cs hg'=>(hg.le S1.le) g cs hg'
   rw[<- hF x] at hFx
   obtain⟨q,Z,mq,k1,S2,hcr,ev⟩:=hrun _ _ _ _ Y.base margs hFx (hA Y.base rfl fun _ h=>h) hY hgY
   cases q with
   |pan v sh=>cases k1
   |ret v sh=>
    cases mq with
    |pan=>cases hcr
    |ret xv hv'=>
     obtain⟨e1,e2,hv⟩:=hcr
     simp only[ztz] at k1
     split at k1
     ·rename_i v0 vs hvs
      split at k1
      ·rename_i y' h2 hd2
       rw[<- e1] at hd2
       obtain⟨xs0,hxs0,hone⟩:=zpu hvs hv
       obtain⟨x0,xs,rfl,hx0,hxs⟩:=hxs0
       obtain⟨Z2,S3,hh3,hs3,hA3⟩:=qJ rs S2.hr hxs hd2
       have S4:=S2.trans S3
       have hx0':RV Z2 v0 x0:=hx0.le S3.le
       have hsame:∀ m,m<Y.h.length->Z2.h[m]?=Y.h[m]?:=fun m hm=>S4.fm.h m hm fun i v b hb=>by simp [Gst.base] at hb
       have hphi:∀ m,m<Y.h.length->Z2.Φ m->Y.Φ m:=fun m hm hΦ=>(S4.fm.phi m hm hΦ).elim id fun⟨i,v,b,hb,_⟩=>by simp [Gst.base] at hb
       have key:∀ (o:Option (Nat×Nat)) (l:List (El u)),(∀ m ver,o=some (m,ver)->Y.h.length<=m/\m<Z2.h.length/\¬ Z2.Φ m)->(∀ W:Gst,W.h=Z2.h->W.Φ=Z2.Φ->RB W (.seq u l 0 0) o) ->
         (match o with|some (m,ver)=>x0=.sl m 0 l.length u.sz ver false|none=>x0=.qZ/\l.length=0)->(κ (.ret (zlg (.gs h'.length 0::qu rs y')) (h'++[.seq u l 0 0]))=some r) ->
         ∃ q Y' mq,κ q=some r/\Stp X Y'/\CRR Y' q mq/\Ev fun n=>ju P hk (jM P hk n) (.f f) margs X.h=some mq:=by
        intro o l hm hB hx h
        have hpush:∀ {j:Nat} {z:Option (Nat×Nat)},(Y.σ++[o])[j]?=some z->Y.σ[j]?=some z\/(j=Y.σ.length/\o=z):=fun h=>zB h
        have hσ:∀ (i:Nat),i<Y.σ.length->(Y.σ++[o])[i]?=Y.σ[i]?:=fun i hi=>List.getElem?_append_left hi
        have hle:Y.le ⟨Z2.h,Z2.Φ,Y.σ++[o],Y.sh++[.seq u l 0 0]⟩:=by
         refine⟨fun m hm=>hsame m (S1.hr.Φlt m hm),S4.le.Φ,by simp,fun loc m v h=>⟨v,by rw[hσ _ (List.getElem?_eq_some_iff.1 h).1];exact h⟩,fun loc w l' k md hi hs=>?_,S1.hr.len⟩
         dsimp only at hs
         rw[List.getElem?_append_left hi] at hs
         exact⟨l',k,md,hs,Nat.le_refl _,fun _=>⟨rfl,hσ _ (by rw[S1.hr.len];exact hi)⟩⟩
        have S5:Stp Y ⟨Z2.h,Z2.Φ,Y.σ++[o],Y.sh++[.seq u l 0 0]⟩:=by
         refine⟨hle,⟨by simp [S1.hr.len],fun i j m v v' h1 h2=>?_,fun i m v h1=>?_,S4.hr.Φlt,fun i b o' h1 h2=>?_,fun i m v b h1 h2 h3=>?_⟩,⟨S4.fm.len,fun m hm' _=>hsame m hm',fun i b hb hm'=>⟨b,?_,hm'⟩,fun i m v h1 hm'=>?_,fun i h1=>⟨?_,?_⟩,fun m hm' hΦ=>.inl (hphi m hm' hΦ)⟩⟩
         ·rcases hpush h1 with q1|⟨e1,q1⟩<;>rcases hpush h2 with q2|⟨e2,q2⟩
          ·exact S1.hr.inj _ _ _ _ _ q1 q2
          ·have:=(hm m v' q2).1;have:=S1.hr.lt _ _ _ q1;omega
          ·have:=(hm m v q1).1;have:=S1.hr.lt _ _ _ q2;omega
          ·exact e1.trans e2.symm
         ·rcases hpush h1 with q1|⟨_,q1⟩
          ·exact Nat.lt_of_lt_of_le (S1.hr.lt _ _ _ q1) S4.fm.len
          ·exact(hm m v q1).2.1
         ·rcases zB h1 with q1|⟨rfl,rfl⟩
          ·have hi:=(List.getElem?_eq_some_iff.1 q1).1
           dsimp only at h2
           rw[hσ _ (by rw[S1.hr.len];exact hi)] at h2
           exact(S1.hr.blk i b o' q1 h2).le hle fun m v e=>hsame m (S1.hr.lt i m v (e ▸ h2))
          ·dsimp only at h2
           rw[<- S1.hr.len,List.getElem?_append_right (Nat.le_refl _)] at h2
           simp at h2;subst h2
           exact hB _ rfl rfl
         ·rcases zB h1 with q1|⟨rfl,rfl⟩
          ·have hi:=(List.getElem?_eq_some_iff.1 q1).1
           dsimp only at h2
           rw[hσ _ (by rw[S1.hr.len];exact hi)] at h2
           exact S1.hr.own i m v b q1 h2 (hphi m (S1.hr.lt i m v h2) h3)
          ·dsimp only at h2
           rw[<- S1.hr.len,List.getElem?_append_right (Nat.le_refl _)] at h2
           simp at h2
           exact absurd h3 (hm m v h2).2.2
         ·show(Y.sh++[_])[i]?=_
          rw[List.getElem?_append_left (List.getElem?_eq_some_iff.1 hb).1];exact hb
         ·rcases hpush h1 with q1|⟨_,q1⟩
          ·exact⟨v,q1⟩
          ·have:=(hm m v q1).1;omega
         ·show(Y.sh++[_])[i]?=_
          rw[List.getElem?_append_left (List.getElem?_eq_some_iff.1 h1).1];exact h1
         ·exact hσ i (by rw[S1.hr.len];exact(List.getElem?_eq_some_iff.1 h1).1)
        refine⟨_,_,.ret xv hv',h,S1.trans S5,⟨by rw[hs1],?_,?_⟩,?_⟩
        ·show Z2.h=hv';rw[hh3,e2]
        ·refine hone _ _ _ (fun e=>List.eq_nil_of_length_eq_zero (by rw[zc7,e];rfl)) (fun e=>?_) ⟨x0,xs,rfl,?_,hA3 _ rfl fun _ h=>h⟩
         ·intro e2
          have:=zc7 rs y'
          rw[e2] at this
          exact e (List.eq_nil_of_length_eq_zero this.symm)
         ·have hl:h'.length=Y.σ.length:=by rw[S1.hr.len,hs1]
          refine⟨?_,o,?_,fun w l2 k md hs=>?_⟩
          ·cases o with
           |none=>rw[hx.1];rfl
           |some p=>obtain⟨m,ver⟩:=p;simp only at hx;rw[hx];rfl
          ·show(Y.σ++[o])[h'.length]?=some o
           rw[hl,List.getElem?_append_right (Nat.le_refl _)];simp
          ·have hs:(Y.sh++[SB.seq u l 0 0])[h'.length]?=some (.seq w l2 k md):=hs
           rw[hl,S1.hr.len,List.getElem?_append_right (Nat.le_refl _)] at hs
           simp at hs
           obtain⟨rfl,e,rfl,rfl⟩:=hs
           cases e
           refine⟨Nat.le_refl _,fun _=>?_⟩
           cases o with
           |none=>exact hx
           |some p=>exact hx
        ·rw[<- hh1];exact ev
       split at k1
       ·cases k1
        cases(show x0=_ from hx0')
        exact key none [] (fun m ver e=>by cases e) (fun W _ _=>rfl) ⟨rfl,rfl⟩ h
       ·rename_i loc n
        split at k1
        ·rename_i u' l1 k hb
         split at k1
         ·rename_i l2 hn hc
          cases k1
          have hn:=Nat.eq_of_beq_eq_true hn
          subst hn
          obtain⟨e,hc⟩:=zV hc
          subst e;cases hc
          rw[<- hs3] at hb
          obtain⟨ho,o,hσo,hcur⟩:=hx0'
          have hq:=(hcur _ _ _ _ hb).2 rfl
          have hRB:=S4.hr.blk loc _ o hb hσo
          refine key o _ (fun m ver e=>?_) (fun W w1 w2=>?_) ?_ h
          ·subst e
           refine⟨?_,S4.hr.lt loc m ver hσo,fun hΦ=>(S4.hr.own loc m ver _ hb hσo hΦ).elim (fun e=>by cases e) (fun e=>by cases e)⟩
           rcases Nat.lt_or_ge m Y.h.length with hlt|hge
           ·obtain⟨v',hv2⟩:=S4.fm.new loc m ver hσo hlt
            simp [Gst.base] at hv2
           ·exact hge
          ·cases o with
           |none=>exact hRB
           |some p=>
            obtain⟨m,ver⟩:=p
            obtain⟨cells,minv,tt,g1,g2,g3,g4⟩:=hRB
            exact⟨cells,minv,_,by rw[w1,zkr (n:=0) rfl];exact g1,g2,by rw[w1,w2];exact g3,fun e=>by cases e⟩
          ·cases o with
           |none=>exact hq
           |some p=>exact hq
         ·cases k1
        ·cases k1
       ·cases k1
      ·cases k1
     ·cases k1
 ·cases h
theorem fnO{T:FT}{al:List FuncId}(hh:zoc P hk al)(hT:ziO P gl hk T){f:FuncId}{u:U}{us rs:List U}{F:El (xg us)->Option (List (El u)×El (xg rs))}(pl:Pl){fn:Func}(hf:P.funcs[f]?=some fn){ls:List (Code×LF)}(hs:zaL P gl hk ls)
  (ha:(al.all fun f=>zlJ T f)=true:=by rfl) (n:Nat:=1500) (h:(match fn.body with|some b=>zE P pl b|none=>none)=some ls:=by kernel_rfl)
  (hF:∀ x,wx P gl (zet T) n pl f (qu us x) [] (ztz u rs)=F x:=by intro x;kernel_rfl):ziO P gl hk ((f,zs2 u us rs F)::T):=
 ⟨ziY (run:=fun R args h κ=>wx P gl (zet T) (R:=R) n pl f args h κ) ((zdr (zqt hh ha hT) n).2.2.1 pl f (ze6 hf h hs)) hF,hT⟩
end
end Go.Sx
namespace Go.Sx
open Go Go.Gx Go.Mx
theorem wri{x:Int}(h:-9223372036854775808<=x)(h':x<=9223372036854775807):IntKind.wrap .i64 x=x:=by
 simp [IntKind.wrap,IntKind.bits,IntKind.signed];omega
theorem js{i n:Nat}(h:i<n):inb (i:Int) n=true:=by
 unfold inb;simp;omega
theorem xA{a b n:Nat}(h:a<=b)(h':b<=n):j9 (a:Int) (b:Int) n=true:=by
 unfold j9;simp;omega
theorem xi{u:U}{l:List (El u)}{i:Nat}(h:i<l.length):nth u l i=l[i]:=by
 unfold nth;rw[List.getD_eq_getElem?_getD,List.getElem?_eq_getElem h];rfl
theorem drop_one{α:Type}{l:List α}{i:Nat}(h:i<l.length):l.drop i=l[i]::l.drop (i+1):=List.drop_eq_getElem_cons h
theorem zk5{i n:Nat}(h:i<n):decide ((i:Int)<(n:Int))=true:=by simp;omega
theorem zk4{i n:Nat}(h:¬ i<n):decide ((i:Int)<(n:Int))=false:=by simp;omega
theorem wy{α:Type}{l:List α}{n:Nat}:slice l 0 n=l.take n:=by unfold slice;simp
theorem zlx{α:Type}{l:List α}{a:Nat}:slice l a l.length=l.drop a:=by
 unfold slice;rw[List.take_of_length_le];rw[List.length_drop];exact Nat.le_refl _
section
variable {u v:U} (hS:∀ a b:El u,zlt u a b=true↔a=b)
include hS
end
end Go.Sx
namespace Go.Proofs.Model
open Go Go.Gx Go.Mx Go.Sx
theorem zfM{p:UInt8->Bool}(h:((List.range 256).all fun n=>p (UInt8.ofNat n))=true)(c:UInt8):p c=true:=by
 rw[List.all_eq_true] at h
 have:=h c.toNat (List.mem_range.2 c.toNat_lt)
 rwa [UInt8.ofNat_toNat] at this
def bOf(o:Option (Bool×Unit)):Bool:=match o with
 |some (b,_)=>b
 |none=>false
def zbb(c:UInt8):Bool:=bOf (jN 0 c)
def ze4(c:UInt8):Bool:=bOf (kM 0 c)
def zbc(c:UInt8):Bool:=bOf (wM 0 c)
def isB(o:Option (Bool×Unit))(b:Bool):Bool:=match o with
 |some (x,_)=>x==b
 |none=>false
theorem zfY{o:Option (Bool×Unit)}{b:Bool}(h:isB o b=true):o=some (b,()):=by
 unfold isB at h
 split at h
 ·rename_i x u;rw[beq_iff_eq] at h;subst h;rfl
 ·cases h
theorem ztg(N:Nat)(c:UInt8):jN N c=some (zbb c,()):=zfY (zfM (p:=fun c=>isB (jN 0 c) (zbb c)) (by kernel_rfl) c)
theorem zvx(N:Nat)(c:UInt8):zbk N c=some (ze4 c,()):=zfY (zfM (p:=fun c=>isB (zbk 0 c) (ze4 c)) (by kernel_rfl) c)
theorem zvy(N:Nat)(c:UInt8):kM N c=some (ze4 c,()):=zfY (zfM (p:=fun c=>isB (kM 0 c) (ze4 c)) (by kernel_rfl) c)
theorem ztF(N:Nat)(c:UInt8):zak N c=some (zbc c,()):=zfY (zfM (p:=fun c=>isB (zak 0 c) (zbc c)) (by kernel_rfl) c)
theorem ztG(N:Nat)(c:UInt8):wM N c=some (zbc c,()):=zfY (zfM (p:=fun c=>isB (wM 0 c) (zbc c)) (by kernel_rfl) c)
theorem zu3(N:Nat)(c:UInt8):zaj N c=some (zbb c,()):=zfY (zfM (p:=fun c=>isB (zaj 0 c) (zbb c)) (by kernel_rfl) c)
theorem zaq{n:Nat}(h:n<=200000):Nat.blt n zr=true:=by
 rw[Nat.blt_eq];unfold zr;omega
def dgt(n k:Nat):UInt8:=UInt8.ofNat (48+n/k % 10)
theorem zdS(n:Nat):Int.tmod ((n:Nat):Int) 100=((n % 100:Nat):Int):=rfl
theorem zdT(n:Nat):Int.tmod ((n:Nat):Int) 10000=((n % 10000:Nat):Int):=rfl
theorem zdU(n:Nat):Int.tmod ((n:Nat):Int) 100000000=((n % 100000000:Nat):Int):=rfl
theorem zdP(n:Nat):Int.tdiv ((n:Nat):Int) 100=((n/100:Nat):Int):=rfl
theorem zdQ(n:Nat):Int.tdiv ((n:Nat):Int) 10000=((n/10000:Nat):Int):=rfl
theorem zdR(n:Nat):Int.tdiv ((n:Nat):Int) 100000000=((n/100000000:Nat):Int):=rfl
theorem zic(n:Nat):((n:Nat):Int)*2=((n*2:Nat):Int):=rfl
theorem zeB(n:Nat):((n:Nat):Int)+1=((n+1:Nat):Int):=rfl
theorem zdy(n:Nat):(48:Int)+((n:Nat):Int)=((48+n:Nat):Int):=rfl
theorem zkJ{n:Nat}(h:n<4294967296):IntKind.wrap .u32 ((n:Nat):Int)=((n:Nat):Int):=by rw[IntKind.wrap_u32];omega
theorem zgp{n:Nat}(h:n<18446744073709551616):IntKind.wrap .u64 ((n:Nat):Int)=((n:Nat):Int):=by rw[IntKind.wrap_u64];omega
theorem xI{k:Nat}(h:k<100):nth .u8 zaS (k*2)=UInt8.ofNat (48+k/10):=by
 have key:((List.range 100).all fun k=>nth .u8 zaS (k*2)==UInt8.ofNat (48+k/10))=true:=by kernel_rfl
 rw[List.all_eq_true] at key
 exact beq_iff_eq.1 (key k (List.mem_range.2 h))
theorem zbh{k:Nat}(h:k<100):nth .u8 zaS (k*2+1)=UInt8.ofNat (48+k % 10):=by
 have key:((List.range 100).all fun k=>nth .u8 zaS (k*2+1)==UInt8.ofNat (48+k % 10))=true:=by kernel_rfl
 rw[List.all_eq_true] at key
 exact beq_iff_eq.1 (key k (List.mem_range.2 h))
theorem kz{n:Nat}(h:n<256):zcX ((n:Nat):Int)=UInt8.ofNat n:=by
 unfold zcX
 rw[IntKind.wrap_u8,show(((n:Nat):Int) % 256).toNat=n by omega]
theorem ke{n a b:Nat}(h:a=n/b % 10):UInt8.ofNat (48+a)=dgt n b:=by rw[h];rfl
theorem zvc(N n:Nat)(hN:10<=N)(h1:100<=n)(h2:n<1000)(hm:n<4294967296)(hd:zf N ((n:Nat):Int)=some ((3:Int),())):ze N ((n:Nat):Int)=some ([dgt n 100,dgt n 10,dgt n 1],()):=by
 obtain⟨m,hm2⟩:∃ m,N=m+2:=⟨N-2,by omega⟩
 have hl:za N N=za N (m+2):=congrArg _ hm2
 have c0:decide (((n:Nat):Int)<100)=false:=by simp;omega
 unfold ze
 simp only[zgp (show n<18446744073709551616 by omega)]
 simp only[hd,hl,Option.bind_some,c0,cond_false,cond_true,show j9 (0:Int) (3:Int) 24=true from rfl,show((Int.toNat (3:Int))-0:Nat)=3 from rfl]
 unfold za zg
 simp (disch:=omega) only[zkJ,zgp,zdS,zdT,zdU,zdP,zdQ,zdR,zic,zeB,zdy,Int.toNat_natCast,js,xI,zbh,kz,cond_true,cond_false,Option.bind_some,
  show inb (0:Int) 3=true from rfl,show inb (1:Int) 3=true from rfl,show inb (2:Int) 3=true from rfl,show(0+Int.toNat (1:Int):Nat)=1 from rfl,show(0+Int.toNat (2:Int):Nat)=2 from rfl,show(0+0:Nat)=0 from rfl,show(0+3:Nat)=3 from rfl,show decide ((8:Int)<=((3:Nat):Int))=false from rfl,show decide ((4:Int)<=((3:Nat):Int))=false from rfl,show decide ((2:Int)<=((3:Nat):Int))=true from rfl,show IntKind.wrap .i64 (((3:Nat):Int)-(1:Int))=(2:Int) from rfl,show IntKind.wrap .i64 (((3:Nat):Int)-(2:Int))=(1:Int) from rfl,show decide ((0:Int)<(1:Int))=true from rfl]
 simp only[slice,List.set_cons_succ,List.set_cons_zero,List.drop_zero,List.take_succ_cons,List.take_zero,Nat.sub_zero,Option.some.injEq,Prod.mk.injEq,List.cons.injEq,and_true]
 refine⟨?_,?_,?_⟩<;>exact ke (by omega)
theorem zvd(N n:Nat)(hN:10<=N)(h1:1000<=n)(h2:n<10000)(hm:n<4294967296)(hd:zf N ((n:Nat):Int)=some ((4:Int),())):ze N ((n:Nat):Int)=some ([dgt n 1000,dgt n 100,dgt n 10,dgt n 1],()):=by
 obtain⟨m,hm2⟩:∃ m,N=m+2:=⟨N-2,by omega⟩
 have hl:za N N=za N (m+2):=congrArg _ hm2
 have c0:decide (((n:Nat):Int)<100)=false:=by simp;omega
 unfold ze
 simp only[zgp (show n<18446744073709551616 by omega)]
 simp only[hd,hl,Option.bind_some,c0,cond_false,cond_true,show j9 (0:Int) (4:Int) 24=true from rfl,show((Int.toNat (4:Int))-0:Nat)=4 from rfl]
 unfold za zg
 simp (disch:=omega) only[zkJ,zgp,zdS,zdT,zdU,zdP,zdQ,zdR,zic,zeB,zdy,Int.toNat_natCast,js,xI,zbh,kz,cond_true,cond_false,Option.bind_some,
  show inb (0:Int) 4=true from rfl,show inb (1:Int) 4=true from rfl,show inb (2:Int) 4=true from rfl,show inb (3:Int) 4=true from rfl,show(0+Int.toNat (0:Int):Nat)=0 from rfl,show(0+Int.toNat (1:Int):Nat)=1 from rfl,show(0+Int.toNat (2:Int):Nat)=2 from rfl,show(0+Int.toNat (3:Int):Nat)=3 from rfl,show(0+0:Nat)=0 from rfl,show(0+4:Nat)=4 from rfl,show decide ((8:Int)<=((4:Nat):Int))=false from rfl,show decide ((4:Int)<=((4:Nat):Int))=true from rfl,show IntKind.wrap .i64 (((4:Nat):Int)-(1:Int))=(3:Int) from rfl,show IntKind.wrap .i64 (((4:Nat):Int)-(2:Int))=(2:Int) from rfl,show IntKind.wrap .i64 (((4:Nat):Int)-(3:Int))=(1:Int) from rfl,show IntKind.wrap .i64 (((4:Nat):Int)-(4:Int))=(0:Int) from rfl,show decide ((2:Int)<=(0:Int))=false from rfl,show decide ((0:Int)<(0:Int))=false from rfl]
 simp only[slice,List.set_cons_succ,List.set_cons_zero,List.drop_zero,List.take_succ_cons,List.take_zero,Nat.sub_zero,Option.some.injEq,Prod.mk.injEq,List.cons.injEq,and_true]
 refine⟨?_,?_,?_,?_⟩<;>exact ke (by omega)
theorem zve(N n:Nat)(hN:10<=N)(h1:10000<=n)(h2:n<100000)(hm:n<4294967296)(hd:zf N ((n:Nat):Int)=some ((5:Int),())):ze N ((n:Nat):Int)=some ([dgt n 10000,dgt n 1000,dgt n 100,dgt n 10,dgt n 1],()):=by
 obtain⟨m,hm2⟩:∃ m,N=m+2:=⟨N-2,by omega⟩
 have hl:za N N=za N (m+2):=congrArg _ hm2
 have c0:decide (((n:Nat):Int)<100)=false:=by simp;omega
 unfold ze
 simp only[zgp (show n<18446744073709551616 by omega)]
 simp only[hd,hl,Option.bind_some,c0,cond_false,cond_true,show j9 (0:Int) (5:Int) 24=true from rfl,show((Int.toNat (5:Int))-0:Nat)=5 from rfl]
 unfold za zg
 simp (disch:=omega) only[zkJ,zgp,zdS,zdT,zdU,zdP,zdQ,zdR,zic,zeB,zdy,Int.toNat_natCast,js,xI,zbh,kz,cond_true,cond_false,Option.bind_some,
  show inb (0:Int) 5=true from rfl,show inb (1:Int) 5=true from rfl,show inb (2:Int) 5=true from rfl,show inb (3:Int) 5=true from rfl,show inb (4:Int) 5=true from rfl,show(0+Int.toNat (1:Int):Nat)=1 from rfl,show(0+Int.toNat (2:Int):Nat)=2 from rfl,show(0+Int.toNat (3:Int):Nat)=3 from rfl,show(0+Int.toNat (4:Int):Nat)=4 from rfl,show(0+0:Nat)=0 from rfl,show(0+5:Nat)=5 from rfl,show decide ((8:Int)<=((5:Nat):Int))=false from rfl,show decide ((4:Int)<=((5:Nat):Int))=true from rfl,show IntKind.wrap .i64 (((5:Nat):Int)-(1:Int))=(4:Int) from rfl,show IntKind.wrap .i64 (((5:Nat):Int)-(2:Int))=(3:Int) from rfl,show IntKind.wrap .i64 (((5:Nat):Int)-(3:Int))=(2:Int) from rfl,show IntKind.wrap .i64 (((5:Nat):Int)-(4:Int))=(1:Int) from rfl,show decide ((2:Int)<=(1:Int))=false from rfl,show decide ((0:Int)<(1:Int))=true from rfl]
 simp only[slice,List.set_cons_succ,List.set_cons_zero,List.drop_zero,List.take_succ_cons,List.take_zero,Nat.sub_zero,Option.some.injEq,Prod.mk.injEq,List.cons.injEq,and_true]
 refine⟨?_,?_,?_,?_,?_⟩<;>exact ke (by omega)
theorem zvf(N n:Nat)(hN:10<=N)(h1:100000<=n)(h2:n<1000000)(hm:n<4294967296)(hd:zf N ((n:Nat):Int)=some ((6:Int),())):ze N ((n:Nat):Int)=some ([dgt n 100000,dgt n 10000,dgt n 1000,dgt n 100,dgt n 10,dgt n 1],()):=by
 obtain⟨m,hm2⟩:∃ m,N=m+2:=⟨N-2,by omega⟩
 have hl:za N N=za N (m+2):=congrArg _ hm2
 have c0:decide (((n:Nat):Int)<100)=false:=by simp;omega
 unfold ze
 simp only[zgp (show n<18446744073709551616 by omega)]
 simp only[hd,hl,Option.bind_some,c0,cond_false,cond_true,show j9 (0:Int) (6:Int) 24=true from rfl,show((Int.toNat (6:Int))-0:Nat)=6 from rfl]
 unfold za zg
 simp (disch:=omega) only[zkJ,zgp,zdS,zdT,zdU,zdP,zdQ,zdR,zic,zeB,zdy,Int.toNat_natCast,js,xI,zbh,kz,cond_true,cond_false,Option.bind_some,
  show inb (0:Int) 6=true from rfl,show inb (1:Int) 6=true from rfl,show inb (2:Int) 6=true from rfl,show inb (3:Int) 6=true from rfl,show inb (4:Int) 6=true from rfl,show inb (5:Int) 6=true from rfl,show(0+Int.toNat (0:Int):Nat)=0 from rfl,show(0+Int.toNat (1:Int):Nat)=1 from rfl,show(0+Int.toNat (2:Int):Nat)=2 from rfl,show(0+Int.toNat (3:Int):Nat)=3 from rfl,show(0+Int.toNat (4:Int):Nat)=4 from rfl,show(0+Int.toNat (5:Int):Nat)=5 from rfl,show(0+0:Nat)=0 from rfl,show(0+6:Nat)=6 from rfl,show decide ((8:Int)<=((6:Nat):Int))=false from rfl,show decide ((4:Int)<=((6:Nat):Int))=true from rfl,show IntKind.wrap .i64 (((6:Nat):Int)-(1:Int))=(5:Int) from rfl,show IntKind.wrap .i64 (((6:Nat):Int)-(2:Int))=(4:Int) from rfl,show IntKind.wrap .i64 (((6:Nat):Int)-(3:Int))=(3:Int) from rfl,show IntKind.wrap .i64 (((6:Nat):Int)-(4:Int))=(2:Int) from rfl,show decide ((2:Int)<=(2:Int))=true from rfl,show IntKind.wrap .i64 ((2:Int)-(1:Int))=(1:Int) from rfl,show IntKind.wrap .i64 ((2:Int)-(2:Int))=(0:Int) from rfl,show decide ((0:Int)<(0:Int))=false from rfl]
 simp only[slice,List.set_cons_succ,List.set_cons_zero,List.drop_zero,List.take_succ_cons,List.take_zero,Nat.sub_zero,Option.some.injEq,Prod.mk.injEq,List.cons.injEq,and_true]
 refine⟨?_,?_,?_,?_,?_,?_⟩<;>exact ke (by omega)
theorem zvg(N n:Nat)(hN:10<=N)(h1:1000000<=n)(h2:n<10000000)(hm:n<4294967296)(hd:zf N ((n:Nat):Int)=some ((7:Int),())):ze N ((n:Nat):Int)=some ([dgt n 1000000,dgt n 100000,dgt n 10000,dgt n 1000,dgt n 100,dgt n 10,dgt n 1],()):=by
 obtain⟨m,hm2⟩:∃ m,N=m+2:=⟨N-2,by omega⟩
 have hl:za N N=za N (m+2):=congrArg _ hm2
 have c0:decide (((n:Nat):Int)<100)=false:=by simp;omega
 unfold ze
 simp only[zgp (show n<18446744073709551616 by omega)]
 simp only[hd,hl,Option.bind_some,c0,cond_false,cond_true,show j9 (0:Int) (7:Int) 24=true from rfl,show((Int.toNat (7:Int))-0:Nat)=7 from rfl]
 unfold za zg
 simp (disch:=omega) only[zkJ,zgp,zdS,zdT,zdU,zdP,zdQ,zdR,zic,zeB,zdy,Int.toNat_natCast,js,xI,zbh,kz,cond_true,cond_false,Option.bind_some,
  show inb (0:Int) 7=true from rfl,show inb (1:Int) 7=true from rfl,show inb (2:Int) 7=true from rfl,show inb (3:Int) 7=true from rfl,show inb (4:Int) 7=true from rfl,show inb (5:Int) 7=true from rfl,show inb (6:Int) 7=true from rfl,show(0+Int.toNat (1:Int):Nat)=1 from rfl,show(0+Int.toNat (2:Int):Nat)=2 from rfl,show(0+Int.toNat (3:Int):Nat)=3 from rfl,show(0+Int.toNat (4:Int):Nat)=4 from rfl,show(0+Int.toNat (5:Int):Nat)=5 from rfl,show(0+Int.toNat (6:Int):Nat)=6 from rfl,show(0+0:Nat)=0 from rfl,show(0+7:Nat)=7 from rfl,show decide ((8:Int)<=((7:Nat):Int))=false from rfl,show decide ((4:Int)<=((7:Nat):Int))=true from rfl,show IntKind.wrap .i64 (((7:Nat):Int)-(1:Int))=(6:Int) from rfl,show IntKind.wrap .i64 (((7:Nat):Int)-(2:Int))=(5:Int) from rfl,show IntKind.wrap .i64 (((7:Nat):Int)-(3:Int))=(4:Int) from rfl,show IntKind.wrap .i64 (((7:Nat):Int)-(4:Int))=(3:Int) from rfl,show decide ((2:Int)<=(3:Int))=true from rfl,show IntKind.wrap .i64 ((3:Int)-(1:Int))=(2:Int) from rfl,show IntKind.wrap .i64 ((3:Int)-(2:Int))=(1:Int) from rfl,show decide ((0:Int)<(1:Int))=true from rfl]
 simp only[slice,List.set_cons_succ,List.set_cons_zero,List.drop_zero,List.take_succ_cons,List.take_zero,Nat.sub_zero,Option.some.injEq,Prod.mk.injEq,List.cons.injEq,and_true]
 refine⟨?_,?_,?_,?_,?_,?_,?_⟩<;>exact ke (by omega)
theorem zvh(N n:Nat)(hN:10<=N)(h1:10000000<=n)(h2:n<100000000)(hm:n<4294967296)(hd:zf N ((n:Nat):Int)=some ((8:Int),())):ze N ((n:Nat):Int)=some ([dgt n 10000000,dgt n 1000000,dgt n 100000,dgt n 10000,dgt n 1000,dgt n 100,dgt n 10,dgt n 1],()):=by
 obtain⟨m,hm2⟩:∃ m,N=m+2:=⟨N-2,by omega⟩
 have hl:za N N=za N (m+2):=congrArg _ hm2
 have c0:decide (((n:Nat):Int)<100)=false:=by simp;omega
 unfold ze
 simp only[zgp (show n<18446744073709551616 by omega)]
 simp only[hd,hl,Option.bind_some,c0,cond_false,cond_true,show j9 (0:Int) (8:Int) 24=true from rfl,show((Int.toNat (8:Int))-0:Nat)=8 from rfl]
 unfold za zg
 unfold za zg
 simp (disch:=omega) only[zkJ,zgp,zdS,zdT,zdU,zdP,zdQ,zdR,zic,zeB,zdy,Int.toNat_natCast,js,xI,zbh,kz,cond_true,cond_false,Option.bind_some,
  show inb (0:Int) 8=true from rfl,show inb (1:Int) 8=true from rfl,show inb (2:Int) 8=true from rfl,show inb (3:Int) 8=true from rfl,show inb (4:Int) 8=true from rfl,show inb (5:Int) 8=true from rfl,show inb (6:Int) 8=true from rfl,show inb (7:Int) 8=true from rfl,show(0+Int.toNat (0:Int):Nat)=0 from rfl,show(0+Int.toNat (1:Int):Nat)=1 from rfl,show(0+Int.toNat (2:Int):Nat)=2 from rfl,show(0+Int.toNat (3:Int):Nat)=3 from rfl,show(0+Int.toNat (4:Int):Nat)=4 from rfl,show(0+Int.toNat (5:Int):Nat)=5 from rfl,show(0+Int.toNat (6:Int):Nat)=6 from rfl,show(0+Int.toNat (7:Int):Nat)=7 from rfl,show(0+0:Nat)=0 from rfl,show(0+8:Nat)=8 from rfl,show decide ((8:Int)<=((8:Nat):Int))=true from rfl,show IntKind.wrap .i64 (((8:Nat):Int)-(1:Int))=(7:Int) from rfl,show IntKind.wrap .i64 (((8:Nat):Int)-(2:Int))=(6:Int) from rfl,show IntKind.wrap .i64 (((8:Nat):Int)-(3:Int))=(5:Int) from rfl,show IntKind.wrap .i64 (((8:Nat):Int)-(4:Int))=(4:Int) from rfl,show IntKind.wrap .i64 (((8:Nat):Int)-(5:Int))=(3:Int) from rfl,show IntKind.wrap .i64 (((8:Nat):Int)-(6:Int))=(2:Int) from rfl,show IntKind.wrap .i64 (((8:Nat):Int)-(7:Int))=(1:Int) from rfl,show IntKind.wrap .i64 (((8:Nat):Int)-(8:Int))=(0:Int) from rfl,show decide ((8:Int)<=(0:Int))=false from rfl,show decide ((4:Int)<=(0:Int))=false from rfl,show decide ((2:Int)<=(0:Int))=false from rfl,show decide ((0:Int)<(0:Int))=false from rfl]
 simp only[slice,List.set_cons_succ,List.set_cons_zero,List.drop_zero,List.take_succ_cons,List.take_zero,Nat.sub_zero,Option.some.injEq,Prod.mk.injEq,List.cons.injEq,and_true]
 refine⟨?_,?_,?_,?_,?_,?_,?_,?_⟩<;>exact ke (by omega)
theorem zvi(N n:Nat)(hN:10<=N)(h1:100000000<=n)(h2:n<1000000000)(hm:n<4294967296)(hd:zf N ((n:Nat):Int)=some ((9:Int),())):ze N ((n:Nat):Int)=some ([dgt n 100000000,dgt n 10000000,dgt n 1000000,dgt n 100000,dgt n 10000,dgt n 1000,dgt n 100,dgt n 10,dgt n 1],()):=by
 obtain⟨m,hm2⟩:∃ m,N=m+2:=⟨N-2,by omega⟩
 have hl:za N N=za N (m+2):=congrArg _ hm2
 have c0:decide (((n:Nat):Int)<100)=false:=by simp;omega
 unfold ze
 simp only[zgp (show n<18446744073709551616 by omega)]
 simp only[hd,hl,Option.bind_some,c0,cond_false,cond_true,show j9 (0:Int) (9:Int) 24=true from rfl,show((Int.toNat (9:Int))-0:Nat)=9 from rfl]
 unfold za zg
 unfold za zg
 simp (disch:=omega) only[zkJ,zgp,zdS,zdT,zdU,zdP,zdQ,zdR,zic,zeB,zdy,Int.toNat_natCast,js,xI,zbh,kz,cond_true,cond_false,Option.bind_some,
  show inb (0:Int) 9=true from rfl,show inb (1:Int) 9=true from rfl,show inb (2:Int) 9=true from rfl,show inb (3:Int) 9=true from rfl,show inb (4:Int) 9=true from rfl,show inb (5:Int) 9=true from rfl,show inb (6:Int) 9=true from rfl,show inb (7:Int) 9=true from rfl,show inb (8:Int) 9=true from rfl,show(0+Int.toNat (1:Int):Nat)=1 from rfl,show(0+Int.toNat (2:Int):Nat)=2 from rfl,show(0+Int.toNat (3:Int):Nat)=3 from rfl,show(0+Int.toNat (4:Int):Nat)=4 from rfl,show(0+Int.toNat (5:Int):Nat)=5 from rfl,show(0+Int.toNat (6:Int):Nat)=6 from rfl,show(0+Int.toNat (7:Int):Nat)=7 from rfl,show(0+Int.toNat (8:Int):Nat)=8 from rfl,show(0+0:Nat)=0 from rfl,show(0+9:Nat)=9 from rfl,show decide ((8:Int)<=((9:Nat):Int))=true from rfl,show IntKind.wrap .i64 (((9:Nat):Int)-(1:Int))=(8:Int) from rfl,show IntKind.wrap .i64 (((9:Nat):Int)-(2:Int))=(7:Int) from rfl,show IntKind.wrap .i64 (((9:Nat):Int)-(3:Int))=(6:Int) from rfl,show IntKind.wrap .i64 (((9:Nat):Int)-(4:Int))=(5:Int) from rfl,show IntKind.wrap .i64 (((9:Nat):Int)-(5:Int))=(4:Int) from rfl,show IntKind.wrap .i64 (((9:Nat):Int)-(6:Int))=(3:Int) from rfl,show IntKind.wrap .i64 (((9:Nat):Int)-(7:Int))=(2:Int) from rfl,show IntKind.wrap .i64 (((9:Nat):Int)-(8:Int))=(1:Int) from rfl,show decide ((8:Int)<=(1:Int))=false from rfl,show decide ((4:Int)<=(1:Int))=false from rfl,show decide ((2:Int)<=(1:Int))=false from rfl,show decide ((0:Int)<(1:Int))=true from rfl]
 simp only[slice,List.set_cons_succ,List.set_cons_zero,List.drop_zero,List.take_succ_cons,List.take_zero,Nat.sub_zero,Option.some.injEq,Prod.mk.injEq,List.cons.injEq,and_true]
 refine⟨?_,?_,?_,?_,?_,?_,?_,?_,?_⟩<;>exact ke (by omega)
theorem ztj(N n:Nat)(hN:10<=N)(h1:1000000000<=n)(h2:n<10000000000)(hm:n<4294967296)(hd:zf N ((n:Nat):Int)=some ((10:Int),())):ze N ((n:Nat):Int)=some ([dgt n 1000000000,dgt n 100000000,dgt n 10000000,dgt n 1000000,dgt n 100000,dgt n 10000,dgt n 1000,dgt n 100,dgt n 10,dgt n 1],()):=by
 obtain⟨m,hm2⟩:∃ m,N=m+2:=⟨N-2,by omega⟩
 have hl:za N N=za N (m+2):=congrArg _ hm2
 have c0:decide (((n:Nat):Int)<100)=false:=by simp;omega
 unfold ze
 simp only[zgp (show n<18446744073709551616 by omega)]
 simp only[hd,hl,Option.bind_some,c0,cond_false,cond_true,show j9 (0:Int) (10:Int) 24=true from rfl,show((Int.toNat (10:Int))-0:Nat)=10 from rfl]
 unfold za zg
 unfold za zg
 simp (disch:=omega) only[zkJ,zgp,zdS,zdT,zdU,zdP,zdQ,zdR,zic,zeB,zdy,Int.toNat_natCast,js,xI,zbh,kz,cond_true,cond_false,Option.bind_some,
  show inb (0:Int) 10=true from rfl,show inb (1:Int) 10=true from rfl,show inb (2:Int) 10=true from rfl,show inb (3:Int) 10=true from rfl,show inb (4:Int) 10=true from rfl,show inb (5:Int) 10=true from rfl,show inb (6:Int) 10=true from rfl,show inb (7:Int) 10=true from rfl,show inb (8:Int) 10=true from rfl,show inb (9:Int) 10=true from rfl,show(0+Int.toNat (0:Int):Nat)=0 from rfl,show(0+Int.toNat (1:Int):Nat)=1 from rfl,show(0+Int.toNat (2:Int):Nat)=2 from rfl,show(0+Int.toNat (3:Int):Nat)=3 from rfl,show(0+Int.toNat (4:Int):Nat)=4 from rfl,show(0+Int.toNat (5:Int):Nat)=5 from rfl,show(0+Int.toNat (6:Int):Nat)=6 from rfl,show(0+Int.toNat (7:Int):Nat)=7 from rfl,show(0+Int.toNat (8:Int):Nat)=8 from rfl,show(0+Int.toNat (9:Int):Nat)=9 from rfl,show(0+0:Nat)=0 from rfl,show(0+10:Nat)=10 from rfl,show decide ((8:Int)<=((10:Nat):Int))=true from rfl,show IntKind.wrap .i64 (((10:Nat):Int)-(1:Int))=(9:Int) from rfl,show IntKind.wrap .i64 (((10:Nat):Int)-(2:Int))=(8:Int) from rfl,show IntKind.wrap .i64 (((10:Nat):Int)-(3:Int))=(7:Int) from rfl,show IntKind.wrap .i64 (((10:Nat):Int)-(4:Int))=(6:Int) from rfl,show IntKind.wrap .i64 (((10:Nat):Int)-(5:Int))=(5:Int) from rfl,show IntKind.wrap .i64 (((10:Nat):Int)-(6:Int))=(4:Int) from rfl,show IntKind.wrap .i64 (((10:Nat):Int)-(7:Int))=(3:Int) from rfl,show IntKind.wrap .i64 (((10:Nat):Int)-(8:Int))=(2:Int) from rfl,show decide ((8:Int)<=(2:Int))=false from rfl,show decide ((4:Int)<=(2:Int))=false from rfl,show decide ((2:Int)<=(2:Int))=true from rfl,show IntKind.wrap .i64 ((2:Int)-(1:Int))=(1:Int) from rfl,show IntKind.wrap .i64 ((2:Int)-(2:Int))=(0:Int) from rfl,show decide ((0:Int)<(0:Int))=false from rfl]
 simp only[slice,List.set_cons_succ,List.set_cons_zero,List.drop_zero,List.take_succ_cons,List.take_zero,Nat.sub_zero,Option.some.injEq,Prod.mk.injEq,List.cons.injEq,and_true]
 refine⟨?_,?_,?_,?_,?_,?_,?_,?_,?_,?_⟩<;>exact ke (by omega)
theorem zmg(n m:Nat):Int.fdiv ((n:Nat):Int) ((m:Nat):Int)=((n/m:Nat):Int):=by
 rw[Int.fdiv_eq_ediv_of_nonneg _ (by omega)];rfl
theorem p8:((2:Int) ^ (min (Int.toNat (8:Int)) (IntKind.bits .u64)))=((256:Nat):Int):=rfl
theorem p16:((2:Int) ^ (min (Int.toNat (16:Int)) (IntKind.bits .u64)))=((65536:Nat):Int):=rfl
theorem p18:((2:Int) ^ (min (Int.toNat (18:Int)) (IntKind.bits .i64)))=((262144:Nat):Int):=rfl
def tL(k:Nat):Nat:=(nth .u8 zog k).toNat
theorem znW{k:Nat}(h:k<256)(h0:0<k):2 ^ (tL k-1)<=k/\k<2 ^ tL k/\1<=tL k/\tL k<=8:=by
 have key:((List.range 256).all fun k=>k==0||(Nat.ble (2 ^ (tL k-1)) k&&(Nat.blt k (2 ^ tL k)&&(Nat.ble 1 (tL k)&&Nat.ble (tL k) 8))))=true:=by kernel_rfl
 rw[List.all_eq_true] at key
 have:=key k (List.mem_range.2 h)
 simp only[Bool.or_eq_true,Bool.and_eq_true,beq_iff_eq,Nat.blt_eq] at this
 rcases this with h1|⟨h1,h2,h3,h4⟩
 ·omega
 ·exact⟨Nat.le_of_ble_eq_true h1,h2,Nat.le_of_ble_eq_true h3,Nat.le_of_ble_eq_true h4⟩
theorem u8n{k:Nat}(h:k<256):UInt8.toNat (zcX ((k:Nat):Int))=k:=by
 rw[kz h,UInt8.toNat_ofNat'];omega
theorem ztt(N n:Nat)(h0:0<n)(h:n<4294967296):∃ L:Nat,1<=L/\L<=32/\2 ^ (L-1)<=n/\n<2 ^ L/\jo N ((n:Nat):Int)=some ((L:Int),()):=by
 have c1:decide ((4294967296:Int)<=((n:Nat):Int))=false:=by simp;omega
 unfold jo
 simp only[c1,cond_false,p8,p16,zmg]
 have fin:∀ (b k:Nat),k<256->0<k->b<=24->2 ^ b*k<=n->n<2 ^ b*(k+1)->∃ L:Nat,1<=L/\L<=32/\2 ^ (L-1)<=n/\n<2 ^ L/\(some (((b+tL k:Nat):Int),()):Option (Int×Unit))=some ((L:Int),()):=by
  intro b k hk hk0 hb h1 h2
  obtain⟨q1,q2,q3,q4⟩:=znW hk hk0
  refine⟨b+tL k,by omega,by omega,?_,?_,rfl⟩
  ·rw[show b+tL k-1=b+(tL k-1) by omega,Nat.pow_add]
   exact Nat.le_trans (Nat.mul_le_mul_left _ q1) h1
  ·rw[Nat.pow_add]
   exact Nat.lt_of_lt_of_le h2 (Nat.mul_le_mul_left _ q2)
 have val:∀ (b k:Nat),k<256->b<=24->0<k->IntKind.wrap .i64 (((b:Nat):Int)+IntKind.wrap .i64 ((UInt8.toNat (nth .u8 zog (Int.toNat ((UInt8.toNat (zcX ((k:Nat):Int)):Nat):Int))):Nat):Int))=((b+tL k:Nat):Int):=by
  intro b k hk hb hk0
  have:=znW hk hk0
  rw[u8n hk,Int.toNat_natCast]
  show IntKind.wrap .i64 (((b:Nat):Int)+IntKind.wrap .i64 ((tL k:Nat):Int))=_
  rw[wri (x:=((tL k:Nat):Int)) (by omega) (by omega),wri (by omega) (by omega)];omega
 by_cases a1:65536<=n
 ·have c2:decide ((65536:Int)<=((n:Nat):Int))=true:=by simp;omega
  simp only[c2,cond_true]
  by_cases a2:256<=n/65536
  ·have c3:decide ((256:Int)<=((n/65536:Nat):Int))=true:=by simp only[decide_eq_true_eq];omega
   have hk:n/65536/256<256:=by omega
   simp only[c3,cond_true]
   rw[u8n hk,js hk,cond_true,<- u8n hk]
   have:=val 24 (n/65536/256) hk (by omega) (by omega)
   rw[u8n hk] at this |-
   rw[show((24:Nat):Int)=(24:Int) from rfl] at this
   rw[this]
   exact fin 24 _ hk (by omega) (by omega) (by omega) (by omega)
  ·have c3:decide ((256:Int)<=((n/65536:Nat):Int))=false:=by simp only[decide_eq_false_iff_not];omega
   have hk:n/65536<256:=by omega
   simp only[c3,cond_false]
   rw[u8n hk,js hk,cond_true]
   have:=val 16 (n/65536) hk (by omega) (by omega)
   rw[u8n hk,show((16:Nat):Int)=(16:Int) from rfl] at this
   rw[this]
   exact fin 16 _ hk (by omega) (by omega) (by omega) (by omega)
 ·have c2:decide ((65536:Int)<=((n:Nat):Int))=false:=by simp;omega
  simp only[c2,cond_false]
  by_cases a2:256<=n
  ·have c3:decide ((256:Int)<=((n:Nat):Int))=true:=by simp;omega
   have hk:n/256<256:=by omega
   simp only[c3,cond_true]
   rw[u8n hk,js hk,cond_true]
   have:=val 8 (n/256) hk (by omega) (by omega)
   rw[u8n hk,show((8:Nat):Int)=(8:Int) from rfl] at this
   rw[this]
   exact fin 8 _ hk (by omega) (by omega) (by omega) (by omega)
  ·have c3:decide ((256:Int)<=((n:Nat):Int))=false:=by simp;omega
   have hk:n<256:=by omega
   simp only[c3,cond_false]
   rw[u8n hk,js hk,cond_true]
   have:=val 0 n hk (by omega) (by omega)
   rw[u8n hk,show((0:Nat):Int)=(0:Int) from rfl] at this
   rw[this]
   exact fin 0 _ hk (by omega) (by omega) (by omega) (by omega)
def zty:List Int:=[1,10,100,1000,10000,100000,1000000,10000000,100000000,1000000000,10000000000,100000000000,1000000000000,10000000000000,100000000000000,1000000000000000,10000000000000000,100000000000000000,1000000000000000000,10000000000000000000]
def pw(k:Nat):Int:=nth (.int .u64) zty k
theorem digits(N n:Nat)(h0:0<n)(h:n<4294967296):∃ L:Nat,1<=L/\L<=32/\2 ^ (L-1)<=n/\n<2 ^ L/\zf N ((n:Nat):Int)=some (((L*78913/262144+(if pw (L*78913/262144)<=(n:Int) then 1 else 0):Nat):Int),()):=by
 obtain⟨L,h1,h2,h3,h4,h5⟩:=ztt N n h0 h
 refine⟨L,h1,h2,h3,h4,?_⟩
 unfold zf jI jH
 simp only[h5,Option.bind_some,p18]
 rw[wri (by omega) (by omega),show((L:Nat):Int)*78913=((L*78913:Nat):Int) from rfl,zmg]
 have ht:L*78913/262144<20:=by omega
 simp only[js ht,Bool.and_self,cond_true,Int.toNat_natCast]
 show Option.bind (cond (decide (pw (L*78913/262144)<=(n:Int))) (some ((1:Int),())) (some ((0:Int),()))) _=_
 by_cases hc:pw (L*78913/262144)<=(n:Int)
 ·rw[decide_eq_true hc,if_pos hc]
  simp only[cond_true,Option.bind_some]
  rw[wri (by omega) (by omega)];rfl
 ·rw[decide_eq_false hc,if_neg hc]
  simp only[cond_false,Option.bind_some]
  rw[wri (by omega) (by omega)];rfl
theorem zpW(N n d:Nat)(h0:100<=n)(h:n<4294967296)(h1:3<=d)(h2:d<=10)(h3:10 ^ (d-1)<=n)(h4:n<10 ^ d):zf N ((n:Nat):Int)=some (((d:Nat):Int),()):=by
 obtain⟨L,q1,q2,q3,q4,q5⟩:=digits N n (by omega) h
 rw[q5]
 clear q5
 have hL:L=1\/L=2\/L=3\/L=4\/L=5\/L=6\/L=7\/L=8\/L=9\/L=10\/L=11\/L=12\/L=13\/L=14\/L=15\/L=16\/L=17\/L=18\/L=19\/L=20\/L=21\/L=22\/L=23\/L=24\/L=25\/L=26\/L=27\/L=28\/L=29\/L=30\/L=31\/L=32:=by omega
 have hd:d=3\/d=4\/d=5\/d=6\/d=7\/d=8\/d=9\/d=10:=by omega
 have fin:L*78913/262144+(if pw (L*78913/262144)<=(n:Int) then 1 else 0)=d:=by
  rcases hd with rfl|rfl|rfl|rfl|rfl|rfl|rfl|rfl<;>simp only[Nat.reduceSub,Nat.reducePow] at h3 h4
  all_goals
   rcases hL with rfl|rfl|rfl|rfl|rfl|rfl|rfl|rfl|rfl|rfl|rfl|rfl|rfl|rfl|rfl|rfl|rfl|rfl|rfl|rfl|rfl|rfl|rfl|rfl|rfl|rfl|rfl|rfl|rfl|rfl|rfl|rfl<;>simp only[Nat.reduceSub,Nat.reducePow] at q3 q4<;>first
    |(exfalso;omega;done)
    |(simp only[Nat.reduceMul,Nat.reduceDiv,show pw 2=100 from rfl,show pw 3=1000 from rfl,show pw 4=10000 from rfl,show pw 5=100000 from rfl,show pw 6=1000000 from rfl,show pw 7=10000000 from rfl,show pw 8=100000000 from rfl,show pw 9=1000000000 from rfl];split<;>omega)
 rw[fin]
def zQ:Nat->Nat->List UInt8
 |0,_=>[]
 |f+1,n=>if n<10 then[UInt8.ofNat (48+n)] else zQ f (n/10)++[UInt8.ofNat (48+n % 10)]
def dec(n:Nat):List UInt8:=zQ 10 n
theorem zu4(n:Nat)(h1:100<=n)(h2:n<1000):dec n=[dgt n 100,dgt n 10,dgt n 1]:=by
 unfold dec
 rw[show zQ 10 (n)=zQ 9 (n/10)++[UInt8.ofNat (48+n % 10)] from if_neg (by omega)]
 rw[show zQ 9 (n/10)=zQ 8 (n/10/10)++[UInt8.ofNat (48+n/10 % 10)] from if_neg (by omega)]
 rw[show zQ 8 (n/10/10)=[UInt8.ofNat (48+n/10/10)] from if_pos (by omega)]
 simp only[List.cons_append,List.nil_append,List.cons.injEq,and_true]
 refine⟨?_,?_,?_⟩<;>exact ke (by omega)
theorem zu5(n:Nat)(h1:1000<=n)(h2:n<10000):dec n=[dgt n 1000,dgt n 100,dgt n 10,dgt n 1]:=by
 unfold dec
 rw[show zQ 10 (n)=zQ 9 (n/10)++[UInt8.ofNat (48+n % 10)] from if_neg (by omega)]
 rw[show zQ 9 (n/10)=zQ 8 (n/10/10)++[UInt8.ofNat (48+n/10 % 10)] from if_neg (by omega)]
 rw[show zQ 8 (n/10/10)=zQ 7 (n/10/10/10)++[UInt8.ofNat (48+n/10/10 % 10)] from if_neg (by omega)]
 rw[show zQ 7 (n/10/10/10)=[UInt8.ofNat (48+n/10/10/10)] from if_pos (by omega)]
 simp only[List.cons_append,List.nil_append,List.cons.injEq,and_true]
 refine⟨?_,?_,?_,?_⟩<;>exact ke (by omega)
theorem zu6(n:Nat)(h1:10000<=n)(h2:n<100000):dec n=[dgt n 10000,dgt n 1000,dgt n 100,dgt n 10,dgt n 1]:=by
 unfold dec
 rw[show zQ 10 (n)=zQ 9 (n/10)++[UInt8.ofNat (48+n % 10)] from if_neg (by omega)]
 rw[show zQ 9 (n/10)=zQ 8 (n/10/10)++[UInt8.ofNat (48+n/10 % 10)] from if_neg (by omega)]
 rw[show zQ 8 (n/10/10)=zQ 7 (n/10/10/10)++[UInt8.ofNat (48+n/10/10 % 10)] from if_neg (by omega)]
 rw[show zQ 7 (n/10/10/10)=zQ 6 (n/10/10/10/10)++[UInt8.ofNat (48+n/10/10/10 % 10)] from if_neg (by omega)]
 rw[show zQ 6 (n/10/10/10/10)=[UInt8.ofNat (48+n/10/10/10/10)] from if_pos (by omega)]
 simp only[List.cons_append,List.nil_append,List.cons.injEq,and_true]
 refine⟨?_,?_,?_,?_,?_⟩<;>exact ke (by omega)
theorem zu7(n:Nat)(h1:100000<=n)(h2:n<1000000):dec n=[dgt n 100000,dgt n 10000,dgt n 1000,dgt n 100,dgt n 10,dgt n 1]:=by
 unfold dec
 rw[show zQ 10 (n)=zQ 9 (n/10)++[UInt8.ofNat (48+n % 10)] from if_neg (by omega)]
 rw[show zQ 9 (n/10)=zQ 8 (n/10/10)++[UInt8.ofNat (48+n/10 % 10)] from if_neg (by omega)]
 rw[show zQ 8 (n/10/10)=zQ 7 (n/10/10/10)++[UInt8.ofNat (48+n/10/10 % 10)] from if_neg (by omega)]
 rw[show zQ 7 (n/10/10/10)=zQ 6 (n/10/10/10/10)++[UInt8.ofNat (48+n/10/10/10 % 10)] from if_neg (by omega)]
 rw[show zQ 6 (n/10/10/10/10)=zQ 5 (n/10/10/10/10/10)++[UInt8.ofNat (48+n/10/10/10/10 % 10)] from if_neg (by omega)]
 rw[show zQ 5 (n/10/10/10/10/10)=[UInt8.ofNat (48+n/10/10/10/10/10)] from if_pos (by omega)]
 simp only[List.cons_append,List.nil_append,List.cons.injEq,and_true]
 refine⟨?_,?_,?_,?_,?_,?_⟩<;>exact ke (by omega)
theorem zu8(n:Nat)(h1:1000000<=n)(h2:n<10000000):dec n=[dgt n 1000000,dgt n 100000,dgt n 10000,dgt n 1000,dgt n 100,dgt n 10,dgt n 1]:=by
 unfold dec
 rw[show zQ 10 (n)=zQ 9 (n/10)++[UInt8.ofNat (48+n % 10)] from if_neg (by omega)]
 rw[show zQ 9 (n/10)=zQ 8 (n/10/10)++[UInt8.ofNat (48+n/10 % 10)] from if_neg (by omega)]
 rw[show zQ 8 (n/10/10)=zQ 7 (n/10/10/10)++[UInt8.ofNat (48+n/10/10 % 10)] from if_neg (by omega)]
 rw[show zQ 7 (n/10/10/10)=zQ 6 (n/10/10/10/10)++[UInt8.ofNat (48+n/10/10/10 % 10)] from if_neg (by omega)]
 rw[show zQ 6 (n/10/10/10/10)=zQ 5 (n/10/10/10/10/10)++[UInt8.ofNat (48+n/10/10/10/10 % 10)] from if_neg (by omega)]
 rw[show zQ 5 (n/10/10/10/10/10)=zQ 4 (n/10/10/10/10/10/10)++[UInt8.ofNat (48+n/10/10/10/10/10 % 10)] from if_neg (by omega)]
 rw[show zQ 4 (n/10/10/10/10/10/10)=[UInt8.ofNat (48+n/10/10/10/10/10/10)] from if_pos (by omega)]
 simp only[List.cons_append,List.nil_append,List.cons.injEq,and_true]
 refine⟨?_,?_,?_,?_,?_,?_,?_⟩<;>exact ke (by omega)
theorem zu9(n:Nat)(h1:10000000<=n)(h2:n<100000000):dec n=[dgt n 10000000,dgt n 1000000,dgt n 100000,dgt n 10000,dgt n 1000,dgt n 100,dgt n 10,dgt n 1]:=by
 unfold dec
 rw[show zQ 10 (n)=zQ 9 (n/10)++[UInt8.ofNat (48+n % 10)] from if_neg (by omega)]
 rw[show zQ 9 (n/10)=zQ 8 (n/10/10)++[UInt8.ofNat (48+n/10 % 10)] from if_neg (by omega)]
 rw[show zQ 8 (n/10/10)=zQ 7 (n/10/10/10)++[UInt8.ofNat (48+n/10/10 % 10)] from if_neg (by omega)]
 rw[show zQ 7 (n/10/10/10)=zQ 6 (n/10/10/10/10)++[UInt8.ofNat (48+n/10/10/10 % 10)] from if_neg (by omega)]
 rw[show zQ 6 (n/10/10/10/10)=zQ 5 (n/10/10/10/10/10)++[UInt8.ofNat (48+n/10/10/10/10 % 10)] from if_neg (by omega)]
 rw[show zQ 5 (n/10/10/10/10/10)=zQ 4 (n/10/10/10/10/10/10)++[UInt8.ofNat (48+n/10/10/10/10/10 % 10)] from if_neg (by omega)]
 rw[show zQ 4 (n/10/10/10/10/10/10)=zQ 3 (n/10/10/10/10/10/10/10)++[UInt8.ofNat (48+n/10/10/10/10/10/10 % 10)] from if_neg (by omega)]
 rw[show zQ 3 (n/10/10/10/10/10/10/10)=[UInt8.ofNat (48+n/10/10/10/10/10/10/10)] from if_pos (by omega)]
 simp only[List.cons_append,List.nil_append,List.cons.injEq,and_true]
 refine⟨?_,?_,?_,?_,?_,?_,?_,?_⟩<;>exact ke (by omega)
theorem zva(n:Nat)(h1:100000000<=n)(h2:n<1000000000):dec n=[dgt n 100000000,dgt n 10000000,dgt n 1000000,dgt n 100000,dgt n 10000,dgt n 1000,dgt n 100,dgt n 10,dgt n 1]:=by
 unfold dec
 rw[show zQ 10 (n)=zQ 9 (n/10)++[UInt8.ofNat (48+n % 10)] from if_neg (by omega)]
 rw[show zQ 9 (n/10)=zQ 8 (n/10/10)++[UInt8.ofNat (48+n/10 % 10)] from if_neg (by omega)]
 rw[show zQ 8 (n/10/10)=zQ 7 (n/10/10/10)++[UInt8.ofNat (48+n/10/10 % 10)] from if_neg (by omega)]
 rw[show zQ 7 (n/10/10/10)=zQ 6 (n/10/10/10/10)++[UInt8.ofNat (48+n/10/10/10 % 10)] from if_neg (by omega)]
 rw[show zQ 6 (n/10/10/10/10)=zQ 5 (n/10/10/10/10/10)++[UInt8.ofNat (48+n/10/10/10/10 % 10)] from if_neg (by omega)]
 rw[show zQ 5 (n/10/10/10/10/10)=zQ 4 (n/10/10/10/10/10/10)++[UInt8.ofNat (48+n/10/10/10/10/10 % 10)] from if_neg (by omega)]
 rw[show zQ 4 (n/10/10/10/10/10/10)=zQ 3 (n/10/10/10/10/10/10/10)++[UInt8.ofNat (48+n/10/10/10/10/10/10 % 10)] from if_neg (by omega)]
 rw[show zQ 3 (n/10/10/10/10/10/10/10)=zQ 2 (n/10/10/10/10/10/10/10/10)++[UInt8.ofNat (48+n/10/10/10/10/10/10/10 % 10)] from if_neg (by omega)]
 rw[show zQ 2 (n/10/10/10/10/10/10/10/10)=[UInt8.ofNat (48+n/10/10/10/10/10/10/10/10)] from if_pos (by omega)]
 simp only[List.cons_append,List.nil_append,List.cons.injEq,and_true]
 refine⟨?_,?_,?_,?_,?_,?_,?_,?_,?_⟩<;>exact ke (by omega)
theorem zti(n:Nat)(h1:1000000000<=n)(h2:n<10000000000):dec n=[dgt n 1000000000,dgt n 100000000,dgt n 10000000,dgt n 1000000,dgt n 100000,dgt n 10000,dgt n 1000,dgt n 100,dgt n 10,dgt n 1]:=by
 unfold dec
 rw[show zQ 10 (n)=zQ 9 (n/10)++[UInt8.ofNat (48+n % 10)] from if_neg (by omega)]
 rw[show zQ 9 (n/10)=zQ 8 (n/10/10)++[UInt8.ofNat (48+n/10 % 10)] from if_neg (by omega)]
 rw[show zQ 8 (n/10/10)=zQ 7 (n/10/10/10)++[UInt8.ofNat (48+n/10/10 % 10)] from if_neg (by omega)]
 rw[show zQ 7 (n/10/10/10)=zQ 6 (n/10/10/10/10)++[UInt8.ofNat (48+n/10/10/10 % 10)] from if_neg (by omega)]
 rw[show zQ 6 (n/10/10/10/10)=zQ 5 (n/10/10/10/10/10)++[UInt8.ofNat (48+n/10/10/10/10 % 10)] from if_neg (by omega)]
 rw[show zQ 5 (n/10/10/10/10/10)=zQ 4 (n/10/10/10/10/10/10)++[UInt8.ofNat (48+n/10/10/10/10/10 % 10)] from if_neg (by omega)]
 rw[show zQ 4 (n/10/10/10/10/10/10)=zQ 3 (n/10/10/10/10/10/10/10)++[UInt8.ofNat (48+n/10/10/10/10/10/10 % 10)] from if_neg (by omega)]
 rw[show zQ 3 (n/10/10/10/10/10/10/10)=zQ 2 (n/10/10/10/10/10/10/10/10)++[UInt8.ofNat (48+n/10/10/10/10/10/10/10 % 10)] from if_neg (by omega)]
 rw[show zQ 2 (n/10/10/10/10/10/10/10/10)=zQ 1 (n/10/10/10/10/10/10/10/10/10)++[UInt8.ofNat (48+n/10/10/10/10/10/10/10/10 % 10)] from if_neg (by omega)]
 rw[show zQ 1 (n/10/10/10/10/10/10/10/10/10)=[UInt8.ofNat (48+n/10/10/10/10/10/10/10/10/10)] from if_pos (by omega)]
 simp only[List.cons_append,List.nil_append,List.cons.injEq,and_true]
 refine⟨?_,?_,?_,?_,?_,?_,?_,?_,?_,?_⟩<;>exact ke (by omega)
theorem znJ(N:Nat){n:Nat}(h:n<100):j1 N ((n:Nat):Int)=some (dec n,()):=by
 have key:((List.range 100).all fun n=>decide (j1 0 ((n:Nat):Int)=some (dec n,())))=true:=by kernel_rfl
 rw[List.all_eq_true] at key
 exact of_decide_eq_true (key n (List.mem_range.2 h))
theorem zqC(N n:Nat)(hN:10<=N)(h:n<4294967296):ze N ((n:Nat):Int)=some (dec n,()):=by
 by_cases h0:n<100
 ·have c0:decide (((n:Nat):Int)<100)=true:=by simp;omega
  unfold ze
  simp only[zgp (show n<18446744073709551616 by omega),c0,cond_true]
  rw[wri (by omega) (by omega),znJ N h0];rfl
 ·rcases(show(100<=n/\n<1000)\/(1000<=n/\n<10000)\/(10000<=n/\n<100000)\/(100000<=n/\n<1000000)\/(1000000<=n/\n<10000000)\/(10000000<=n/\n<100000000)\/(100000000<=n/\n<1000000000)\/(1000000000<=n/\n<10000000000) by omega) with⟨h1,h2⟩|⟨h1,h2⟩|⟨h1,h2⟩|⟨h1,h2⟩|⟨h1,h2⟩|⟨h1,h2⟩|⟨h1,h2⟩|⟨h1,h2⟩
  ·rw[zu4 n h1 h2];exact zvc N n hN h1 h2 h (zpW N n 3 (by omega) h (by omega) (by omega) h1 h2)
  ·rw[zu5 n h1 h2];exact zvd N n hN h1 h2 h (zpW N n 4 (by omega) h (by omega) (by omega) h1 h2)
  ·rw[zu6 n h1 h2];exact zve N n hN h1 h2 h (zpW N n 5 (by omega) h (by omega) (by omega) h1 h2)
  ·rw[zu7 n h1 h2];exact zvf N n hN h1 h2 h (zpW N n 6 (by omega) h (by omega) (by omega) h1 h2)
  ·rw[zu8 n h1 h2];exact zvg N n hN h1 h2 h (zpW N n 7 (by omega) h (by omega) (by omega) h1 h2)
  ·rw[zu9 n h1 h2];exact zvh N n hN h1 h2 h (zpW N n 8 (by omega) h (by omega) (by omega) h1 h2)
  ·rw[zva n h1 h2];exact zvi N n hN h1 h2 h (zpW N n 9 (by omega) h (by omega) (by omega) h1 h2)
  ·rw[zti n h1 h2];exact ztj N n hN h1 h2 h (zpW N n 10 (by omega) h (by omega) (by omega) h1 h2)
theorem zgy(N n:Nat)(hN:10<=N)(h:n<4294967296):ze N ((n:Nat):Int)=some (dec n,()):=by
 exact zqC N n hN h
theorem zkf:∀ f n,(zQ f n).length<=f
 |0,n=>by simp [zQ]
 |f+1,n=>by
  unfold zQ
  split
  ·simp
  ·have:=zkf f (n/10);simp;omega
theorem ziy{k:Nat}(h:k<10):slice ([48,49,50,51,52,53,54,55,56,57]:List UInt8) k (k+1)=[UInt8.ofNat (48+k)]:=by
 have key:((List.range 10).all fun k=>slice ([48,49,50,51,52,53,54,55,56,57]:List UInt8) k (k+1)==[UInt8.ofNat (48+k)])=true:=by kernel_rfl
 rw[List.all_eq_true] at key
 exact beq_iff_eq.1 (key k (List.mem_range.2 h))
theorem zsV(n:Nat):Int.tmod ((n:Nat):Int) 10=((n % 10:Nat):Int):=rfl
theorem zsU(n:Nat):Int.tdiv ((n:Nat):Int) 10=((n/10:Nat):Int):=rfl
theorem zsf(N:Nat):∀ (f m n:Nat) (acc:List UInt8),n<10 ^ f->n<4294967296->0<f->f<=m->acc.length+f<=1000->∃ (x:Nat) (ys:List UInt8),zS N m ((n:Nat):Int) acc=some (((x:Nat):Int),ys)/\x<10/\UInt8.ofNat (48+x)::ys=zQ f n++acc/\ys.length<=1000
 |0,m,n,acc,h,h',h0,hm,hl=>by omega
 |f+1,0,n,acc,h,h',h0,hm,hl=>by omega
 |f+1,m+1,n,acc,h,h',h0,hm,hl=>by
  unfold zS ka
  by_cases hn:n<10
  ·have c:decide ((10:Int)<=((n:Nat):Int))=false:=by simp;omega
   simp only[c,cond_false]
   exact⟨n,acc,rfl,hn,by unfold zQ;rw[if_pos hn];rfl,by omega⟩
  ·have c:decide ((10:Int)<=((n:Nat):Int))=true:=by simp;omega
   have hk:n % 10<10:=by omega
   have hb:=xA (a:=n % 10) (b:=n % 10+1) (n:=10) (by omega) (by omega)
   simp (disch:=omega) only[c,cond_true,zsV,zsU,zeB,zkJ,hb,Int.toNat_natCast,ziy]
   have c2:decide (List.length [UInt8.ofNat (48+n % 10)]+List.length acc<4611686018427387904)=true:=by simp;omega
   simp only[c2,cond_true]
   have hpos:0<f:=by
    cases f with
    |zero=>simp at h;omega
    |succ f=>omega
   have hlt:n/10<10 ^ f:=by rw[Nat.pow_succ] at h;omega
   obtain⟨x,ys,q1,q2,q3,q4⟩:=zsf N f m (n/10) ([UInt8.ofNat (48+n % 10)]++acc) hlt (by omega) hpos (by omega) (by simp;omega)
   exact⟨x,ys,q1,q2,by
                rw[q3];conv=>rhs;unfold zQ;rw[if_neg hn]
                simp,q4⟩
theorem zi2(N n:Nat)(hN:10<=N)(h:n<4294967296):qA N ((n:Nat):Int)=some (dec n,()):=by
 obtain⟨x,ys,q1,q2,q3,q4⟩:=zsf N 10 N n [] (by omega) h (by omega) (by omega) (by simp)
 unfold qA
 have hb:=xA (a:=x) (b:=x+1) (n:=10) (by omega) (by omega)
 simp (disch:=omega) only[q1,Option.bind_some,zeB,zkJ,hb,cond_true,Int.toNat_natCast,ziy]
 have c2:decide (List.length [UInt8.ofNat (48+x)]+List.length ys<4611686018427387904)=true:=by simp;omega
 rw[List.append_nil] at q3
 simp only[c2,cond_true,List.cons_append,List.nil_append,q3];rfl
def zj1:Nat->List UInt8->Option Nat
 |acc,[]=>some acc
 |acc,c::r=>if 48<=c.toNat/\c.toNat<=57 then zj1 (acc*10+(c.toNat-48)) r else none
theorem zn4:∀ (l:List UInt8) (acc v:Nat),zj1 acc l=some v->acc<=v
 | [],acc,v,h=>by cases h;omega
 |c::r,acc,v,h=>by
  unfold zj1 at h
  split at h
  ·have:=zn4 r _ v h;omega
  ·cases h
theorem zn5:∀ (l:List UInt8) (acc v k:Nat),zj1 acc l=some v->acc<10 ^ k->v<10 ^ (k+l.length)
 | [],acc,v,k,h,hk=>by cases h;simpa using hk
 |c::r,acc,v,k,h,hk=>by
  unfold zj1 at h
  split at h
  ·have:=zn5 r _ v (k+1) h (by rw[Nat.pow_succ];omega)
   rwa [List.length_cons,show k+(r.length+1)=k+1+r.length by omega]
  ·cases h
theorem zq4(M:Nat)(hM:M<1844674407370955162):∀ (l:List UInt8) (acc v:Nat),acc<=M->zj1 acc l=some v->v<=M->Go.Lib.parseUintM M acc l=.ok v
 | [],acc,v,ha,h,hv=>by cases h;rfl
 |c::r,acc,v,ha,h,hv=>by
  unfold zj1 at h
  split at h
  ·rename_i hc
   have:=zn4 r _ v h
   unfold Go.Lib.parseUintM
   rw[if_pos hc,if_neg (by omega),if_neg (by omega)]
   exact zq4 M hM r _ v (by omega) h hv
  ·cases h
theorem zpZ(M:Nat):∀ (l:List UInt8) (acc v:Nat),acc<=M->Go.Lib.parseUintM M acc l=.ok v->zj1 acc l=some v/\v<=M
 | [],acc,v,ha,h=>by cases h;exact⟨rfl,ha⟩
 |c::r,acc,v,ha,h=>by
  unfold Go.Lib.parseUintM at h
  split at h
  ·rename_i hc
   split at h
   ·cases h
   ·split at h
    ·cases h
    ·unfold zj1
     rw[if_pos hc]
     exact zpZ M r _ v (by omega) h
  ·cases h
def zeq(s:List UInt8):Option Nat:=match zj1 0 s with
 |some v=>if v<=4294967295/\dec v=s then some v else none
 |none=>none
def zqY(s:List UInt8):Option (Int×Bool×Unit):=some (match zeq s with
 |some v=>(((v:Nat):Int),true,())
 |none=>(0,false,()))
theorem zm3{s:List UInt8}{v:Nat}(h:zeq s=some v):v<=4294967295:=by
 unfold zeq at h
 split at h
 ·split at h
  ·rename_i hc;cases h;exact hc.1
  ·cases h
 ·cases h
theorem zeK(n:Nat):(dec n).length<=10:=zkf 10 n
theorem zoR{s:List UInt8}{v:Nat}(h:zeq s=some v):s.length<=10:=by
 unfold zeq at h
 split at h
 ·split at h
  ·rename_i hc;rw[<- hc.2];exact zeK _
  ·cases h
 ·cases h
theorem zoS(N:Nat)(hN:10<=N)(s:List UInt8)(hs:s.length<=100000):ki N s=zqY s:=by
 unfold ki zqY
 have hb:Nat.ble (List.length s) zk1=true:=by rw[Nat.ble_eq];unfold zk1;omega
 simp only[hb,cond_true]
 have bad:zeq s=none->some ((0:Int),false,())=some (match zeq s with
  |some v=>(((v:Nat):Int),true,())
  |none=>(0,false,())):=fun h=>by rw[h]
 rcases hp:Go.Lib.parseUintB 32 s with u|_|_
 ·unfold Go.Lib.parseUintB at hp
  split at hp
  ·cases hp
  ·obtain⟨h1,h2⟩:=zpZ _ s 0 u (by omega) hp
   have h2:u<=4294967295:=h2
   simp only[zm9]
   rw[zkJ (by omega),zgy N u hN (by omega)]
   simp only[Option.bind_some]
   unfold zeq
   simp only[h1]
   cases hd:dec u != s with
   |true=>
    have hd':¬ dec u=s:=by simpa using hd
    rw[if_neg (fun h=>hd' h.2)];rfl
   |false=>
    have hd':dec u=s:=by simpa using hd
    rw[if_pos ⟨h2,hd'⟩];rfl
 ·refine bad ?_
  unfold zeq
  split
  ·rename_i v hv
   rw[if_neg]
   intro⟨h1,h2⟩
   unfold Go.Lib.parseUintB at hp
   split at hp
   ·rename_i he
    subst he
    have:(dec v).length=0:=by rw[h2];rfl
    unfold dec zQ at this
    split at this<;>simp at this
   ·rw[zq4 _ (by decide) s 0 v (by omega) hv h1] at hp;cases hp
  ·rfl
 ·refine bad ?_
  unfold zeq
  split
  ·rename_i v hv
   rw[if_neg]
   intro⟨h1,h2⟩
   unfold Go.Lib.parseUintB at hp
   split at hp
   ·cases hp
   ·rw[zq4 _ (by decide) s 0 v (by omega) hv h1] at hp;cases hp
  ·rfl
theorem zvu(c:UInt8):decide (c<(48:UInt8))=decide (c.toNat<48):=by
 rw[decide_eq_decide];exact UInt8.lt_iff_toNat_lt
theorem zvr(c:UInt8):decide ((57:UInt8)<c)=decide (57<c.toNat):=by
 rw[decide_eq_decide];exact UInt8.lt_iff_toNat_lt
theorem ztE{c:UInt8}(h:48<=c.toNat):(c-48).toNat=c.toNat-48:=by
 have:=c.toNat_lt
 rw[UInt8.toNat_sub]
 show(256-48+c.toNat) % 256=_
 omega
theorem zsi(N:Nat)(s:List UInt8)(hs:s.length<=10):∀ (m i v:Nat),i<=s.length->v<10 ^ i->s.length<m+i ->
  qd N m s ((v:Nat):Int) ((i:Nat):Int)=match zj1 v (s.drop i) with
   |some w=>some (Sum.inr (s,((w:Nat):Int)))
   |none=>some (Sum.inl ())
 |0,i,v,h,hv,h'=>by omega
 |m+1,i,v,h,hv,h'=>by
  unfold qd kL
  by_cases hi:i<s.length
  ·simp only[zk5 hi,cond_true,js hi,Int.toNat_natCast,xi (u:=.u8) hi,zvu,zvr,drop_one hi,zj1]
   have hlt:=s[i].toNat_lt
   by_cases h1:s[i].toNat<48
   ·simp only[decide_eq_true h1,cond_true]
    rw[if_neg (by omega)]
   ·simp only[decide_eq_false h1,cond_false]
    by_cases h2:57<s[i].toNat
    ·simp only[decide_eq_true h2,cond_true]
     rw[if_neg (by omega)]
    ·simp only[decide_eq_false h2,cond_false]
     rw[if_pos ⟨by omega,by omega⟩,ztE (by omega)]
     have hp:10 ^ i<=10 ^ 9:=Nat.pow_le_pow_right (by omega) (by omega)
     have hp2:(10:Nat) ^ (i+1)=10 ^ i*10:=Nat.pow_succ ..
     have e1:IntKind.wrap .u64 ((IntKind.wrap .u64 ((10:Int)*((v:Nat):Int)))+(IntKind.wrap .u64 (((s[i].toNat-48:Nat)):Int)))=((v*10+(s[i].toNat-48):Nat):Int):=by
      rw[show(10:Int)*((v:Nat):Int)=((10*v:Nat):Int) from rfl,zgp (by omega),zgp (n:=s[i].toNat-48) (by omega),show((10*v:Nat):Int)+((s[i].toNat-48:Nat):Int)=((10*v+(s[i].toNat-48):Nat):Int) from rfl,zgp (by omega)]
      omega
     rw[e1,wri (by omega) (by omega),zeB]
     exact zsi N s hs m (i+1) _ (by omega) (by omega) (by omega)
  ·simp only[zk4 hi,cond_false]
   rw[List.drop_eq_nil_of_le (by omega)]
   rfl
theorem zq0(N:Nat)(hN:20<=N)(s:List UInt8):wD N s=zqY s:=by
 unfold wD zqY
 by_cases hl:s.length<=10
 ·have c:decide ((10:Int)<((s.length:Nat):Int))=false:=by simp;omega
  have h:=zsi N s hl N 0 0 (by omega) (by simp) (by omega)
  rw[show((0:Nat):Int)=(0:Int) from rfl,List.drop_zero] at h
  simp only[c,cond_false,h]
  unfold zeq
  cases hv:zj1 0 s with
  |none=>rfl
  |some v=>
   simp only[Option.bind_some,zl]
   have hlt:=zn5 s 0 v 0 hv (by simp)
   have hp:10 ^ (0+s.length)<=10 ^ 10:=Nat.pow_le_pow_right (by omega) (by omega)
   by_cases h1:v<=4294967295
   ·have c1:decide ((4294967295:Int)<((v:Nat):Int))=false:=by simp;omega
    simp only[c1,cond_false]
    rw[zkJ (by omega),zi2 N v (by omega) (by omega)]
    simp only[Option.bind_some]
    cases hd:dec v != s with
    |true=>
     have hd':¬ dec v=s:=by simpa using hd
     rw[if_neg (fun h=>hd' h.2)];rfl
    |false=>
     have hd':dec v=s:=by simpa using hd
     rw[if_pos ⟨h1,hd'⟩];rfl
   ·have c1:decide ((4294967295:Int)<((v:Nat):Int))=true:=by simp;omega
    simp only[c1,cond_true]
    rw[if_neg (fun h=>h1 h.1)]
 ·have c:decide ((10:Int)<((s.length:Nat):Int))=true:=by simp;omega
  simp only[c,cond_true]
  cases hv:zeq s with
  |none=>rfl
  |some v=>exact absurd (zoR hv) hl
theorem zcq{α:Type}(l:List α)(a:Nat):zeL l a=l.drop a:=by
 unfold zeL;rw[Int.toNat_natCast];exact zlx
theorem zeH{α:Type}{a:Nat}{l:List α}(h:a<=l.length):zkL ((a:Nat):Int) l=true:=xA h (Nat.le_refl _)
theorem zke(N:Nat)(l:List UInt8)(h:l.length<=100000):zG N l=some (l,()):=by
 unfold zG
 rw[zaq (by omega)];rfl
theorem jC{α:Type}{l:List α}{a b:Nat}:(slice l a b).length<=l.length:=by
 unfold slice;rw[List.length_take,List.length_drop];omega
def zcs:List UInt8->Option Nat
 | []=>none
 |a::r=>if a=13/\r.head?=some 10 then some 0 else(zcs r).map (· + 1)
theorem zi4:∀ {l:List UInt8} {e:Nat},zcs l=some e->e+1<l.length
 | [],e,h=>by cases h
 |a::r,e,h=>by
  unfold zcs at h
  split at h
  ·rename_i hc
   cases h
   cases r with
   |nil=>simp at hc
   |cons c r=>simp
  ·cases hr:zcs r with
   |none=>rw[hr] at h;cases h
   |some k=>
    rw[hr] at h
    have:=zi4 hr
    cases h
    simp;omega
theorem zhL:∀ (l:List UInt8),Go.Lib.index l [13,10]=match zcs l with|some e=>(e:Int)|none=>-1
 | []=>rfl
 |a::r=>by
  unfold Go.Lib.index zcs
  have ih:=zhL r
  have hp:([13,10]:List UInt8).isPrefixOf (a::r)=decide (a=13/\r.head?=some 10):=by
   cases r with
   |nil=>simp [List.isPrefixOf]
   |cons c r=>
    simp only[List.isPrefixOf,Bool.and_true,List.head?_cons,Option.some.injEq]
    by_cases h1:a=13
    ·by_cases h2:c=10
     ·subst h1;subst h2;rfl
     ·subst h1;simp [h2,beq_eq_false_iff_ne,Ne.symm h2]
    ·simp [h1,Ne.symm h1]
  rw[hp]
  by_cases hc:a=13/\r.head?=some 10
  ·simp [hc]
  ·rw[decide_eq_false hc,if_neg hc,if_neg (by simp),ih]
   cases zcs r with
   |none=>rfl
   |some k=>
    simp only[Option.map_some]
    have:((k:Int) == -1)=false:=by simp
    rw[this];simp
theorem zpM(N:Nat){b:List UInt8}(hb:b.length<=1000000):∀ (m i:Nat),i<=b.length->b.length<m+i->qR N m b (i:Int)=some (match zcs (b.drop i) with|some e=>.inl ((i+e:Nat):Int)|none=>.inr ())
 |0,i,h,h'=>by omega
 |m+1,i,h,h'=>by
  unfold qR zaJ
  rw[wri (by omega) (by omega),show((i:Int)+1)=((i+1:Nat):Int) by omega]
  by_cases h1:i+1<b.length
  ·have h0:i<b.length:=by omega
   rw[zk5 h1,cond_true,js h0,cond_true]
   simp only[Int.toNat_natCast,xi (u:=.u8) h0,xi (u:=.u8) h1,js h1,cond_true]
   rw[drop_one h0]
   have ih:=zpM N hb m (i+1) (by omega) (by omega)
   have hh:(b.drop (i+1)).head?=some b[i+1]:=by rw[List.head?_drop,List.getElem?_eq_getElem h1]
   unfold zcs
   rw[hh]
   by_cases c1:b[i]=13
   ·by_cases c2:b[i+1]=10
    ·simp [c1,c2]
    ·rw[if_neg (by simp [c2]),ih]
     simp only[c1,beq_self_eq_true,cond_true,beq_eq_false_iff_ne.2 c2,cond_false]
     cases zcs (b.drop (i+1)) with
     |none=>rfl
     |some e=>simp only[Option.map_some];congr 3;omega
   ·rw[if_neg (by simp [c1]),ih]
    simp only[beq_eq_false_iff_ne.2 c1,cond_false]
    cases zcs (b.drop (i+1)) with
    |none=>rfl
    |some e=>simp only[Option.map_some];congr 3;omega
  ·rw[zk4 h1,cond_false]
   have:zcs (b.drop i)=none:=by
    cases he:zcs (b.drop i) with
    |none=>rfl
    |some e=>have:=zi4 he;rw[List.length_drop] at this;omega
   rw[this]
theorem zqx(N:Nat){b:List UInt8}(hb:b.length<=1000000)(hN:b.length<N){i:Nat}(hi:i<=b.length):zan N b (i:Int)=some (match zcs (b.drop i) with|some e=>((i+e:Nat):Int)|none=>-1,()):=by
 unfold zan
 rw[zpM N hb N i hi (by omega),Option.bind_some]
 cases zcs (b.drop i)<;>rfl
def dg(c:UInt8):Prop:=48<=c.toNat/\c.toNat<=57
instance (c:UInt8):Decidable (dg c):=inferInstanceAs (Decidable (_/\_))
theorem zn3:∀ (l:List UInt8) (acc v:Nat),zj1 acc l=some v->∀ c ∈ l,dg c
 | [],_,_,_,c,h=>by cases h
 |a::r,acc,v,h,c,hc=>by
  unfold zj1 at h
  split at h
  ·rename_i hd
   rcases List.mem_cons.1 hc with rfl|hc
   ·exact hd
   ·exact zn3 r _ v h c hc
  ·cases h
theorem zqZ{s:List UInt8}{v:Nat}(h:zeq s=some v):∀ c ∈ s,dg c:=by
 unfold zeq at h
 split at h
 ·rename_i w hw
  exact zn3 s 0 w hw
 ·cases h
def ku(c:UInt8)(l:List UInt8):Nat->Option Nat
 |0=>none
 |k+1=>if l[k]?=some c then some k else ku c l k
theorem kB{c:UInt8}{l:List UInt8}:∀ {k j:Nat},ku c l k=some j->j<k/\l[j]?=some c/\∀ i,j<i->i<k->l[i]? ≠ some c
 |0,j,h=>by cases h
 |k+1,j,h=>by
  unfold ku at h
  split at h
  ·rename_i hc
   cases h
   exact⟨by omega,hc,fun i h1 h2=>by omega⟩
  ·rename_i hc
   obtain⟨h1,h2,h3⟩:=kB h
   refine⟨by omega,h2,fun i h4 h5=>?_⟩
   by_cases e:i=k
   ·subst e;exact hc
   ·exact h3 i h4 (by omega)
theorem zf1{c:UInt8}{l:List UInt8}:∀ {k:Nat},ku c l k=none->∀ i,i<k->l[i]? ≠ some c
 |0,h,i,hi=>by omega
 |k+1,h,i,hi=>by
  unfold ku at h
  split at h
  ·cases h
  ·rename_i hc
   by_cases e:i=k
   ·subst e;exact hc
   ·exact zf1 h i (by omega)
def zjC(l:List UInt8):Nat->Nat
 |0=>0
 |k+1=>if ∃ c,l[k]?=some c/\dg c then zjC l k else k+1
theorem ze9(l:List UInt8):∀ k,zjC l k<=k/\(∀ j,zjC l k<=j->j<k->∃ c,l[j]?=some c/\dg c)/\(∀ r,zjC l k=r+1->¬ ∃ c,l[r]?=some c/\dg c)
 |0=>⟨Nat.le_refl _,fun j h h'=>by omega,fun r h=>by cases h⟩
 |k+1=>by
  obtain⟨h1,h2,h3⟩:=ze9 l k
  unfold zjC
  split
  ·rename_i hc
   refine⟨by omega,fun j q1 q2=>?_,h3⟩
   by_cases e:j=k
   ·subst e;exact hc
   ·exact h2 j q1 (by omega)
  ·rename_i hc
   refine⟨Nat.le_refl _,fun j q1 q2=>by omega,fun r e=>?_⟩
   cases e;exact hc
theorem zq8{l:List UInt8}{k j:Nat}(hj:j<=k)(h1:∀ i,j<=i->i<k->∃ c,l[i]?=some c/\dg c)(h2:∀ r,j=r+1->¬ ∃ c,l[r]?=some c/\dg c):zjC l k=j:=by
 obtain⟨q1,q2,q3⟩:=ze9 l k
 rcases Nat.lt_trichotomy (zjC l k) j with h|h|h
 ·obtain⟨r,rfl⟩:∃ r,j=r+1:=⟨j-1,by omega⟩
  exact absurd (q2 r (by omega) (by omega)) (h2 r rfl)
 ·exact h
 ·obtain⟨r,hr⟩:∃ r,zjC l k=r+1:=⟨zjC l k-1,by omega⟩
  exact absurd (h1 r (by omega) (by omega)) (q3 r hr)
def zj7(l:List UInt8):Option Nat:=if l.getLast?=some 125 then match ku 123 l (l.length-1) with
 |some j=>zeq (slice l (j+1) (l.length-1))
 |none=>none
 else none
def zpE(o:Option Nat):Option (Int×Bool×Unit):=some (match o with
 |some v=>(((v:Nat):Int),true,())
 |none=>(0,false,()))
theorem zm2(s:List UInt8):zqY s=zpE (zeq s):=rfl
theorem wrap32{v:Nat}(h:v<=4294967295):IntKind.wrap .i64 (v:Int)=v:=wri (by omega) (by omega)
theorem zmD(N:Nat){l:List UInt8}(hl:l.length<=1000000)(c:UInt8):∀ (k m:Nat),k<=l.length->k<m->zi N m l c ((k:Int)-1)=some (match ku c l k with|some j=>.inl (j:Int)|none=>.inr ())
 |0,m,_,h=>by
  obtain⟨m,rfl⟩:∃ q,m=q+1:=⟨m-1,by omega⟩
  unfold zi zZ
  rw[show decide ((0:Int)<=((0:Nat):Int)-1)=false by decide]
  rfl
 |k+1,m,hk,h=>by
  obtain⟨m,rfl⟩:∃ q,m=q+1:=⟨m-1,by omega⟩
  have ih:=zmD N hl c k m (by omega) (by omega)
  unfold zi zZ
  rw[show(((k+1:Nat):Int)-1)=((k:Nat):Int) by omega,decide_eq_true (by omega:(0:Int)<=(k:Int)),cond_true,js (by omega),cond_true,Int.toNat_natCast,xi (u:=.u8) (by omega:k<l.length),wri (by omega) (by omega),ih]
  rw[show ku c l (k+1)=if l[k]?=some c then some k else ku c l k from rfl,List.getElem?_eq_getElem (by omega:k<l.length)]
  by_cases e:l[k]=c
  ·simp [e]
  ·rw[beq_eq_false_iff_ne.2 e,cond_false,if_neg (by simp [e])]
theorem zmE(N:Nat){l:List UInt8}(hl:l.length<=1000000)(hN:l.length<N)(c:UInt8):qn N l c=some (match ku c l l.length with|some j=>(j:Int)|none=>-1,()):=by
 unfold qn qD
 rw[wri (by omega) (by omega),zmD N hl c l.length N (Nat.le_refl _) hN,Option.bind_some]
 cases ku c l l.length<;>rfl
theorem zf2{c:UInt8}{l:List UInt8}{n:Nat}:∀ {k:Nat},k<=n->ku c (l.take n) k=ku c l k
 |0,_=>rfl
 |k+1,h=>by
  rw[show ku c (l.take n) (k+1)=if(l.take n)[k]?=some c then some k else ku c (l.take n) k from rfl,show ku c l (k+1)=if l[k]?=some c then some k else ku c l k from rfl,List.getElem?_take_of_lt (show k<n by omega),zf2 (by omega)]
theorem zjZ(N:Nat){l:List UInt8}(hl:l.length<=1000000):jm N l [125]=some (if l.getLast?=some 125 then(l.take (l.length-1),true,()) else(l,false,())):=by
 unfold jm wm zai
 cases hc:l.length with
 |zero=>
  have:l=[]:=List.length_eq_zero_iff.1 hc
  subst this
  rfl
 |succ n=>
  have hw:IntKind.wrap .i64 (((n+1:Nat):Int)-(1:Int))=(n:Int):=by rw[show(((n+1:Nat):Int)-1)=(n:Int) by omega];exact wri (by omega) (by omega)
  have hd:zeL l n=[l[n]'(by omega)]:=by
   rw[zcq,drop_one (by omega),List.drop_of_length_le (by omega)]
  have hgl:l.getLast?=some (l[n]'(by omega)):=by rw[List.getLast?_eq_getElem?,show l.length-1=n by omega,List.getElem?_eq_getElem]
  simp only[List.length_cons,List.length_nil,Nat.zero_add,hc]
  rw[show decide (((1:Nat):Int)<=((n+1:Nat):Int))=true by simp;omega,cond_true]
  simp only[show(((1:Nat):Int))=(1:Int) from rfl,hw,zeH (show n<=l.length by omega),Bool.and_true,cond_true,Int.toNat_natCast,hd,Option.bind_some,hgl,Option.some.injEq]
  by_cases e:l[n]'(by omega)=125
  ·simp only[e,beq_self_eq_true,Bool.not_true,cond_false,if_true]
   rw[show j9 (0:Int) (n:Int) (n+1)=true from xA (a:=0) (Nat.zero_le _) (by omega),wy]
   rfl
  ·have:([l[n]'(by omega)]==[(125:UInt8)])=false:=by simp [e]
   simp only[this,Bool.not_false,cond_true,e,if_false]
theorem zom(N:Nat){l:List UInt8}(hl:l.length<=100000)(hN:l.length<N)(hN2:10<=N):jq N l=zpE (zj7 l):=by
 unfold jq
 rw[zjZ N (by omega),Option.bind_some]
 unfold zj7
 by_cases h:l.getLast?=some 125
 ·rw[if_pos h,if_pos h]
  have hlt:(l.take (l.length-1)).length=l.length-1:=by rw[List.length_take];omega
  simp only[Bool.not_true,cond_false]
  rw[zmE N (by omega) (by omega),hlt,zf2 (Nat.le_refl _),Option.bind_some]
  cases hj:ku 123 l (l.length-1) with
  |none=>rfl
  |some j=>
   obtain⟨h1,h2,h3⟩:=kB hj
   simp only
   rw[decide_eq_false (by omega),cond_false,wri (by omega) (by omega),show((j:Int)+1)=((j+1:Nat):Int) by omega,zeH (by omega),Int.toNat_natCast]
   simp only[Bool.and_true,cond_true]
   have hs:zeL (l.take (l.length-1)) (j+1)=slice l (j+1) (l.length-1):=by rw[zcq,List.drop_take];rfl
   rw[hs,zoS N hN2 _ (by have:=@jC _ l (j+1) (l.length-1);omega),zm2]
   cases hn:zeq (slice l (j+1) (l.length-1)) with
   |none=>rfl
   |some v=>
    simp only[zpE,Option.bind_some]
    rw[wrap32 (zm3 hn)]
 ·rw[if_neg h,if_neg h]
  rfl
theorem znh(N:Nat){l:List UInt8}(hl:l.length<=1000000)(x2:Int):∀ (k m:Nat),k<=l.length->k<m->zJ N m l x2 (k:Int)=some (l,x2,((zjC l k:Nat):Int))
 |0,m,_,h=>by
  obtain⟨m,rfl⟩:∃ q,m=q+1:=⟨m-1,by omega⟩
  rfl
 |k+1,m,hk,h=>by
  obtain⟨m,rfl⟩:∃ q,m=q+1:=⟨m-1,by omega⟩
  have ih:=znh N hl x2 k m (by omega) (by omega)
  have hk':k<l.length:=by omega
  unfold zJ wk
  rw[decide_eq_true (by omega:(0:Int)<((k+1:Nat):Int)),cond_true,wri (by omega) (by omega),show(((k+1:Nat):Int)-1)=(k:Int) by omega,js hk']
  simp only[cond_true,Int.toNat_natCast,xi (u:=.u8) hk',ih]
  rw[show zjC l (k+1)=if ∃ c,l[k]?=some c/\dg c then zjC l k else k+1 from rfl,List.getElem?_eq_getElem hk']
  by_cases e1:(48:UInt8)<=l[k]
  ·by_cases e2:l[k]<=(57:UInt8)
   ·rw[if_pos ⟨_,rfl,e1,e2⟩]
    simp [e1,e2]
   ·rw[if_neg (fun⟨c,h1,h2⟩=>by cases h1;exact e2 h2.2)]
    simp [e1,e2]
  ·rw[if_neg (fun⟨c,h1,h2⟩=>by cases h1;exact e1 h2.1)]
   simp [e1]
theorem zqm(N:Nat){l:List UInt8}(hl:l.length<=100000)(hN:l.length<N)(hN2:20<=N):jr N l=zpE (zj7 l):=by
 unfold jr
 rw[wri (by omega) (by omega)]
 cases hc:l.length with
 |zero=>
  have:l=[]:=List.length_eq_zero_iff.1 hc
  subst this
  rfl
 |succ n=>
  have hn:n<l.length:=by omega
  have hgl:l.getLast?=some (l[n]'(by omega)):=by rw[List.getLast?_eq_getElem?,show l.length-1=n by omega,List.getElem?_eq_getElem]
  rw[show(((n+1:Nat):Int)-1)=(n:Int) by omega,decide_eq_false (by omega),cond_false,js (by omega),cond_true,Int.toNat_natCast,xi (u:=.u8) hn]
  unfold zj7
  rw[hgl,hc,Nat.add_sub_cancel]
  by_cases e:l[n]'(by omega)=125
  ·obtain⟨r1,r2,r3⟩:=ze9 l n
   rw[if_pos (by rw[e]),znh N (by omega) _ n N (by omega) (by omega),Option.bind_some]
   have hb:(l[n]'(by omega) != 125)=false:=by simp [e]
   rw[hb,cond_false]
   simp only
   rw[xA r1 (by omega),zq0 N hN2]
   simp only[Bool.and_true,cond_true,Int.toNat_natCast]
   have key:∀ j v,ku 123 l n=some j->zeq (slice l (j+1) n)=some v->zjC l n=j+1:=fun j v hj hv=>by
    obtain⟨h1,h2,h3⟩:=kB hj
    have hd:=zqZ hv
    refine zq8 (by omega) (fun i q1 q2=>?_) fun r er=>?_
    ·have hi:i<l.length:=by omega
     refine⟨l[i],List.getElem?_eq_getElem hi,hd _ ?_⟩
     rw[List.mem_iff_getElem?]
     refine⟨i-(j+1),?_⟩
     unfold slice
     rw[List.getElem?_take,if_pos (by omega),List.getElem?_drop,show j+1+(i-(j+1))=i by omega,List.getElem?_eq_getElem hi]
    ·cases er
     rintro⟨c,h4,h5⟩
     rw[h2] at h4;cases h4
     exact absurd h5 (by decide)
   cases hv:zeq (slice l (zjC l n) n) with
   |none=>
    simp only[zqY,hv,Option.bind_some,Bool.not_false,cond_true]
    cases hj:ku 123 l n with
    |none=>rfl
    |some j=>
     simp only
     cases hw:zeq (slice l (j+1) n) with
     |none=>rfl
     |some v=>
      rw[key j v hj hw,hw] at hv;cases hv
   |some v=>
    simp only[zqY,hv,Option.bind_some,Bool.not_true,cond_false]
    cases hr:zjC l n with
    |zero=>
     rw[show(((0:Nat):Int)==0)=true from rfl,cond_true]
     cases hj:ku 123 l n with
     |none=>rfl
     |some j=>
      obtain⟨h1,h2,h3⟩:=kB hj
      obtain⟨c,h4,h5⟩:=r2 j (by omega) h1
      rw[h2] at h4;cases h4
      exact absurd h5 (by decide)
    |succ r=>
     have hrl:r<l.length:=by omega
     rw[show((((r+1:Nat):Int))==0)=false by simp;omega,cond_false,wri (by omega) (by omega),show(((r+1:Nat):Int)-1)=(r:Int) by omega,js (by omega),cond_true,Int.toNat_natCast,xi (u:=.u8) hrl]
     by_cases e3:l[r]=123
     ·have hj:ku 123 l n=some r:=by
       cases hj:ku 123 l n with
       |none=>exact absurd (by rw[List.getElem?_eq_getElem hrl,e3]) (zf1 hj r (by omega))
       |some j=>
        obtain⟨h1,h2,h3⟩:=kB hj
        rcases Nat.lt_trichotomy j r with q|q|q
        ·exact absurd (by rw[List.getElem?_eq_getElem hrl,e3]) (h3 r q (by omega))
        ·rw[q]
        ·obtain⟨c,h4,h5⟩:=r2 j (by omega) h1
         rw[h2] at h4;cases h4
         exact absurd h5 (by decide)
      rw[hj]
      simp only
      rw[hr] at hv
      have hb3:(l[r] != 123)=false:=by simp [e3]
      rw[hv,hb3,cond_false,wrap32 (zm3 hv)]
      rfl
     ·have hb3:(l[r] != 123)=true:=by simp [e3]
      rw[hb3,cond_true]
      cases hj:ku 123 l n with
      |none=>rfl
      |some j=>
       simp only
       cases hw:zeq (slice l (j+1) n) with
       |none=>rfl
       |some v'=>
        have:=key j v' hj hw
        rw[hr] at this;cases this
        obtain⟨h1,h2,h3⟩:=kB hj
        rw[List.getElem?_eq_getElem hrl] at h2
        exact absurd (Option.some.inj h2) e3
  ·have hb:(l[n]'(by omega) != 125)=true:=by simp [e]
   rw[hb,cond_true,if_neg (by simp [e])]
   rfl
abbrev Frm:=Int×List UInt8
def ziX(b:List UInt8):Nat->Nat->List Frm×Option Nat
 |0,_=>([],none)
 |m+1,f=>if f<=b.length then match zcs (b.drop f) with
  |none=>([],none)
  |some e=>if 8192<(slice b f (f+e)).length then([(3,(slice b f (f+e)).take 8192)],some (f+e+2)) else match zj7 (slice b f (f+e)) with
   |none=>([(1,b.take (f+e))],some (f+e+2))
   |some n=>if 65536<n then([(4,b.take (f+e))],some (f+e+2)) else((2,[])::(ziX b m (f+e+2+n)).1,(ziX b m (f+e+2+n)).2)
  else([],none)
theorem zat(b:List UInt8){f:Nat}(h:b.length<f):∀ m,ziX b m f=([],none)
 |0=>rfl
 |m+1=>by unfold ziX;rw[if_neg (by omega)]
theorem zfR{b:List UInt8}{f e:Nat}(h:zcs (b.drop f)=some e):f+e+2<=b.length:=by
 have:=zi4 h;rw[List.length_drop] at this;omega
theorem zhu(b:List UInt8):∀ (m m' f:Nat),b.length<m+f->b.length<m'+f->ziX b m f=ziX b m' f
 |0,m',f,h,h'=>by rw[zat b (by omega),zat b (by omega)]
 |m+1,0,f,h,h'=>by rw[zat b (by omega),zat b (by omega)]
 |m+1,m'+1,f,h,h'=>by
  unfold ziX
  split
  ·cases he:zcs (b.drop f) with
   |none=>rfl
   |some e=>
    simp only
    split
    ·rfl
    ·cases hn:zj7 (slice b f (f+e)) with
     |none=>rfl
     |some n=>simp only;rw[zhu b m m' (f+e+2+n) (by omega) (by omega)]
  ·rfl
theorem zgv(b:List UInt8):∀ (m f:Nat),f<=b.length->(ziX b m f).1.length+f<=b.length/\∀ k,(ziX b m f).2=some k->(ziX b m f).1.length+f<=k/\f+2<=k/\k<=b.length
 |0,f,hf=>⟨by simp [ziX];omega,fun k h=>by cases h⟩
 |m+1,f,hf=>by
  unfold ziX
  rw[if_pos hf]
  cases he:zcs (b.drop f) with
  |none=>exact⟨by simp;omega,fun k h=>by cases h⟩
  |some e=>
   have:=zfR he
   simp only
   split
   ·exact⟨by simp;omega,fun k h=>by cases h;simp;omega⟩
   ·cases hn:zj7 (slice b f (f+e)) with
    |none=>exact⟨by simp;omega,fun k h=>by cases h;simp;omega⟩
    |some n=>
     simp only
     split
     ·exact⟨by simp;omega,fun k h=>by cases h;simp;omega⟩
     ·by_cases hg:f+e+2+n<=b.length
      ·obtain⟨h1,h2⟩:=zgv b m (f+e+2+n) hg
       exact⟨by simp only[List.length_cons];omega,fun k h=>by have:=h2 k h;simp only[List.length_cons];omega⟩
      ·rw[zat b (by omega)]
       exact⟨by simp;omega,fun k h=>by cases h⟩
def zd6(b:List UInt8)(f:Nat):List Frm×Option Nat:=ziX b (b.length+1) f
theorem zl3(b:List UInt8){f:Nat}(hf:f<=b.length):zd6 b f=match zcs (b.drop f) with
  |none=>([],none)
  |some e=>if 8192<(slice b f (f+e)).length then([(3,(slice b f (f+e)).take 8192)],some (f+e+2)) else match zj7 (slice b f (f+e)) with
   |none=>([(1,b.take (f+e))],some (f+e+2))
   |some n=>if 65536<n then([(4,b.take (f+e))],some (f+e+2)) else((2,[])::(zd6 b (f+e+2+n)).1,(zd6 b (f+e+2+n)).2):=by
 unfold zd6
 rw[show ziX b (b.length+1) f=_ from rfl]
 conv=>lhs;unfold ziX
 rw[if_pos hf]
 cases he:zcs (b.drop f) with
 |none=>rfl
 |some e=>
  simp only
  split
  ·rfl
  ·cases hn:zj7 (slice b f (f+e)) with
   |none=>rfl
   |some n=>simp only;rw[zhu b b.length (b.length+1) (f+e+2+n) (by omega) (by omega)]
def zqc:Nat->List UInt8->List Frm×Nat
 |0,b=>([],b.length)
 |m+1,b=>match(zd6 b 0).2 with
  |none=>((zd6 b 0).1,b.length)
  |some k=>((zd6 b 0).1++(zqc m (b.drop k)).1,(zqc m (b.drop k)).2)
theorem ziE:∀ (m m':Nat) (b:List UInt8),b.length<m->b.length<m'->zqc m b=zqc m' b
 |0,_,b,h,_=>by omega
 |m+1,0,b,_,h=>by omega
 |m+1,m'+1,b,h,h'=>by
  unfold zqc
  cases hc:(zd6 b 0).2 with
  |none=>rfl
  |some k=>
   have:=(zgv b (b.length+1) 0 (Nat.zero_le _)).2 k hc
   simp only
   rw[ziE m m' (b.drop k) (by rw[List.length_drop];omega) (by rw[List.length_drop];omega)]
def zfh(b:List UInt8):List Frm×Nat:=zqc (b.length+1) b
def km(b:List UInt8)(f:Nat):List Frm×Nat:=match(zd6 b f).2 with
 |none=>((zd6 b f).1,b.length)
 |some k=>((zd6 b f).1++(zfh (b.drop k)).1,(zfh (b.drop k)).2)
theorem zfi(b:List UInt8):zfh b=km b 0:=by
 unfold zfh km
 rw[show zqc (b.length+1) b=_ from rfl]
 conv=>lhs;unfold zqc
 cases hc:(zd6 b 0).2 with
 |none=>rfl
 |some k=>
  have:=(zgv b (b.length+1) 0 (Nat.zero_le _)).2 k hc
  simp only
  unfold zfh
  rw[ziE b.length ((b.drop k).length+1) (b.drop k) (by rw[List.length_drop];omega) (by omega)]
def zi0:(Int×List Frm) ⊕ List Frm->List Frm×Int
 |.inl a=>(a.2,a.1)
 |.inr b=>(b,-1)
def zop:Option Nat->Int
 |none=>-1
 |some k=>(k:Int)
theorem zl4(N:Nat){b:List UInt8}(hb:b.length<=100000)(hN:b.length<N)(hN2:20<=N):∀ (m f:Nat) (out:List Frm),0<m->b.length<m+f->out.length<=f->f<=200000->∃ o,zM N m b (f:Int) out=some o/\zi0 o=(out++(zd6 b f).1,zop (zd6 b f).2)
 |0,f,out,hm,h,ho,hf2=>by omega
 |m+1,f,out,hm,h,ho,hf2=>by
  unfold zM wO
  by_cases hf:f<=b.length
  ·rw[decide_eq_true (by omega:(f:Int)<=((b.length:Nat):Int)),cond_true,zqx N (by omega) hN hf,Option.bind_some,zl3 b hf]
   cases he:zcs (b.drop f) with
   |none=>exact⟨_,rfl,by simp [zi0,zop]⟩
   |some e=>
    have hle:=zfR he
    have hsl:(slice b f (f+e)).length<=b.length:=jC
    simp only
    rw[decide_eq_false (by omega),cond_false,xA (by omega) (by omega)]
    simp only[Bool.and_true,cond_true,Int.toNat_natCast]
    have hlo:Nat.blt (out.length+1) zr=true:=zaq (by omega)
    by_cases h8:8192<(slice b f (f+e)).length
    ·have hb2:j9 (0:Int) (8192:Int) (slice b f (f+e)).length=true:=xA (a:=0) (b:=8192) (by omega) (by omega)
     have hb3:Nat.blt (0+(slice (slice b f (f+e)) 0 8192).length) zr=true:=zaq (by have:=@jC _ (slice b f (f+e)) 0 8192;omega)
     rw[decide_eq_true (by omega),cond_true,hb2,hb3,hlo,if_pos h8]
     simp only[cond_true,Bool.and_true]
     rw[wri (by omega) (by omega)]
     refine⟨_,rfl,?_⟩
     simp only[zi0,zop,wy,List.nil_append]
     congr 1
    ·rw[decide_eq_false (by omega),cond_false,zqm N (by omega) (by omega) hN2,if_neg h8]
     cases hn:zj7 (slice b f (f+e)) with
     |none=>
      have hb2:j9 (0:Int) ((f+e:Nat):Int) b.length=true:=xA (a:=0) (by omega) (by omega)
      have hb3:Nat.blt (0+(slice b 0 (f+e)).length) zr=true:=zaq (by have:=@jC _ b 0 (f+e);omega)
      simp only[zpE,Option.bind_some,Bool.not_false,cond_true,hb2,hb3,hlo,Bool.and_true]
      rw[wri (by omega) (by omega)]
      refine⟨_,rfl,?_⟩
      simp only[zi0,zop,wy,List.nil_append]
      congr 1
     |some n=>
      simp only[zpE,Option.bind_some,Bool.not_true,cond_false]
      by_cases hn6:65536<n
      ·have hb2:j9 (0:Int) ((f+e:Nat):Int) b.length=true:=xA (a:=0) (by omega) (by omega)
       have hb3:Nat.blt (0+(slice b 0 (f+e)).length) zr=true:=zaq (by have:=@jC _ b 0 (f+e);omega)
       rw[decide_eq_true (by omega),cond_true,hb2,hb3,hlo,if_pos hn6]
       simp only[cond_true,Bool.and_true]
       rw[wri (by omega) (by omega)]
       refine⟨_,rfl,?_⟩
       simp only[zi0,zop,wy,List.nil_append]
       congr 1
      ·rw[decide_eq_false (by omega),cond_false,hlo,cond_true,if_neg hn6,wri (x:=((f+e:Nat):Int)+2) (by omega) (by omega),wri (by omega) (by omega),show(((f+e:Nat):Int)+2+(n:Int))=((f+e+2+n:Nat):Int) by omega]
       obtain⟨o,h1,h2⟩:=zl4 N hb hN hN2 m (f+e+2+n) (out++[(2,[])]) (by omega) (by omega) (by simp;omega) (by omega)
       exact⟨o,h1,by rw[h2];simp⟩
  ·rw[decide_eq_false (by omega),cond_false]
   refine⟨_,rfl,?_⟩
   unfold zd6
   rw[zat b (by omega)]
   simp [zi0,zop]
theorem zqs(N:Nat){b:List UInt8}(hb:b.length<=100000)(hN:b.length<N)(hN2:20<=N):jV N b=some ((zd6 b 0).1,zop (zd6 b 0).2,()):=by
 unfold jV
 obtain⟨o,h1,h2⟩:=zl4 N hb hN hN2 N 0 [] (by omega) (by omega) (by simp) (by omega)
 rw[show((0:Nat):Int)=0 from rfl] at h1
 rw[h1,Option.bind_some]
 cases o<;>(simp only[zi0,List.nil_append,Prod.mk.injEq] at h2;simp only[zl,h2.1,h2.2])
theorem ziB(N C:Nat)(hC:C<=100000)(hN:C<N)(hN2:20<=N):∀ (m:Nat) (b:List UInt8) (out:List Frm),b.length<m->out.length+b.length<=C->qf N m b out=some (((zfh b).2:Int),out++(zfh b).1)
 |0,b,out,h,ho=>by omega
 |m+1,b,out,h,ho=>by
  have hok:=zgv b (b.length+1) 0 (Nat.zero_le _)
  change (zd6 b 0).1.length+0<=b.length/\∀ k,(zd6 b 0).2=some k->(zd6 b 0).1.length+0<=k/\0+2<=k/\k<=b.length at hok
  obtain⟨hk1,hk2⟩:=hok
  unfold qf kR
  rw[zqs N (by omega) (by omega) hN2,Option.bind_some,zfi]
  unfold km
  have hb:Nat.blt (out.length+(zd6 b 0).1.length) zr=true:=zaq (by omega)
  simp only[hb,cond_true]
  cases hc:(zd6 b 0).2 with
  |none=>simp only[zop];rfl
  |some k=>
   obtain⟨q1,q2,q3⟩:=hk2 k hc
   have hk0:¬ ((k:Int)<0):=by omega
   simp only[zop,hk0,decide_false,cond_false,zeH q3,Bool.and_true,cond_true,Int.toNat_natCast,zcq]
   rw[ziB N C hC hN hN2 m (b.drop k) _ (by rw[List.length_drop];omega) (by rw[List.length_append,List.length_drop];omega),List.append_assoc]
theorem ziD(N:Nat){b:List UInt8}(hb:b.length<=100000)(hN:b.length<N)(hN2:20<=N):jW N b=some ((zfh b).1,((zfh b).2:Int),()):=by
 unfold jW
 rw[ziB N b.length hb hN hN2 N b [] hN (by simp),Option.bind_some,List.nil_append]
theorem zgE(N:Nat){b l:List UInt8}{at_ sk se:Int}(hb:b.length<=100000)(hl:l.length<=100000){k:Int}{n:Nat}(hn:n<=b.length):zv N (b,(at_,(sk,se))) k l (n:Int)=some ((b.drop n,(0,(0,0))),(k,l),true,()):=by
 unfold zv
 rw[zke N l (by omega),Option.bind_some]
 simp only[zeH hn,Bool.and_true,cond_true,Int.toNat_natCast,zcq]
 rw[zke N _ (by rw[List.length_drop];omega),Option.bind_some]
def zkR(b:List UInt8)(f:Nat):Option (Frm×List UInt8×Nat×Nat):=match zcs (b.drop f) with
 |none=>none
 |some e=>if 8192<(slice b f (f+e)).length then some ((3,(slice b f (f+e)).take 8192),b.drop (f+e+2),0,0) else match zj7 (slice b f (f+e)) with
  |none=>some ((1,b.take (f+e)),b.drop (f+e+2),0,0)
  |some n=>if 65536<n then some ((4,b.take (f+e)),b.drop (f+e+2),0,0) else some ((2,[]),b,f+e+2,n)
theorem zoQ(N:Nat){b:List UInt8}{a s:Nat}{se:Int}(hb:b.length<=100000)(ha:a<=b.length)(hs:s<=100000)(hf:b.length<a+s):zm N (b,((a:Int),((s:Int),se)))=some ((b,((a:Int),((s:Int),se))),(0,[]),false,()):=by
 unfold zm zF
 simp only
 rw[wri (by omega) (by omega),decide_eq_true (by omega),cond_true,Option.bind_some]
 rfl
theorem zif(N:Nat){b:List UInt8}{a s:Nat}{se:Int}(hb:b.length<=100000)(hN:b.length<N)(hN2:20<=N)(hf:a+s<=b.length):match zkR b (a+s) with
  |none=>∃ se',zm N (b,((a:Int),((s:Int),se)))=some ((b,(((a+s:Nat):Int),((0:Int),se'))),(0,[]),false,())
  |some (fr,b',a',s')=>∃ se',zm N (b,((a:Int),((s:Int),se)))=some ((b',((a':Int),((s':Int),se'))),fr,true,()):=by
 have hlit:zF N (b,((a:Int),((s:Int),se)))=some ((b,(((a+s:Nat):Int),((0:Int),((a+s:Nat):Int)))),true,()):=by
  unfold zF
  simp only
  rw[wri (x:=((b.length:Nat):Int)-(a:Int)) (by omega) (by omega),decide_eq_false (by omega),cond_false,wri (by omega) (by omega)]
  rfl
 generalize hfq:a+s=f at *
 have hlen:(b.drop f).length<=100000:=by rw[List.length_drop];omega
 have hline:qp N (b,((f:Int),((0:Int),(f:Int))))=match zcs (b.drop f) with
   |none=>some ((b,((f:Int),((0:Int),(if IntKind.wrap .i64 (((b.length:Nat):Int)-1) > (f:Int) then IntKind.wrap .i64 (((b.length:Nat):Int)-1) else(f:Int))))),(0:Int),false,())
   |some e=>some ((b,((f:Int),((0:Int),(f:Int)))),((f+e:Nat):Int),true,()):=by
  unfold qp
  have hl32:Nat.ble (b.drop f).length zeZ=true:=by simp [zeZ];omega
  simp only[zeH hf,Bool.and_true,cond_true,Int.toNat_natCast,zcq,hl32,zhL]
  cases he:zcs (b.drop f) with
  |none=>rfl
  |some e=>
   have:=zfR he
   simp only
   rw[decide_eq_false (by omega),cond_false,wri (by omega) (by omega)]
   rfl
 unfold zm
 rw[hlit,Option.bind_some]
 simp only[Bool.not_true,cond_false]
 rw[hline]
 unfold zkR
 cases he:zcs (b.drop f) with
 |none=>exact⟨_,rfl⟩
 |some e=>
  have hle:=zfR he
  have hsl:(slice b f (f+e)).length<=b.length:=jC
  simp only[Option.bind_some,Bool.not_true,cond_false]
  rw[xA (by omega) (by omega)]
  simp only[Bool.and_true,cond_true,Int.toNat_natCast]
  rw[zom N (by omega) (by omega) (by omega)]
  have hw2:IntKind.wrap .i64 (((f+e:Nat):Int)+2)=((f+e+2:Nat):Int):=by rw[wri (by omega) (by omega)];omega
  have hb2:j9 (0:Int) ((f+e:Nat):Int) b.length=true:=xA (a:=0) (by omega) (by omega)
  by_cases h8:8192<(slice b f (f+e)).length
  ·have hb3:j9 (0:Int) (8192:Int) (slice b f (f+e)).length=true:=xA (a:=0) (b:=8192) (by omega) (by omega)
   simp only[zpE,Option.bind_some,if_pos h8]
   rw[decide_eq_true (by omega),cond_true,hb3,hw2]
   simp only[Bool.and_true,cond_true]
   rw[zgE N hb (by have:=@jC _ (slice b f (f+e)) 0 8192;omega) (by omega),Option.bind_some,wy]
   exact⟨_,rfl⟩
  ·simp only[zpE,Option.bind_some,if_neg h8]
   rw[decide_eq_false (by omega),cond_false]
   cases hn:zj7 (slice b f (f+e)) with
   |none=>
    simp only[Bool.not_false,cond_true,hb2,Bool.and_true]
    rw[hw2,zgE N hb (by have:=@jC _ b 0 (f+e);omega) (by omega),Option.bind_some,wy]
    exact⟨_,rfl⟩
   |some n=>
    simp only[Bool.not_true,cond_false]
    by_cases hn6:65536<n
    ·rw[decide_eq_true (by omega),cond_true,if_pos hn6]
     simp only[hb2,Bool.and_true,cond_true]
     rw[hw2,zgE N hb (by have:=@jC _ b 0 (f+e);omega) (by omega),Option.bind_some,wy]
     exact⟨_,rfl⟩
    ·rw[decide_eq_false (by omega),cond_false,if_neg hn6,hw2]
     exact⟨_,rfl⟩
theorem zcp{b:List UInt8}{f:Nat}(h:b.length<f):km b f=([],b.length):=by
 unfold km zd6
 rw[zat b h]
theorem xU{b:List UInt8}{f:Nat}(hf:f<=b.length):km b f=match zkR b f with
  |none=>([],b.length)
  |some (fr,b',a',s')=>(fr::(km b' (a'+s')).1,(km b' (a'+s')).2):=by
 have fin:∀ (fr:Frm) (k:Nat),zd6 b f=([fr],some k)->km b f=(fr::(km (b.drop k) (0+0)).1,(km (b.drop k) (0+0)).2):=fun fr k h=>by
  unfold km
  rw[h]
  simp only
  rw[zfi]
  rfl
 have hc:=zl3 b hf
 unfold zkR
 cases he:zcs (b.drop f) with
 |none=>
  rw[he] at hc
  unfold km
  rw[hc]
 |some e=>
  rw[he] at hc
  simp only at hc |-
  by_cases h8:8192<(slice b f (f+e)).length
  ·rw[if_pos h8] at hc |-
   exact fin _ _ hc
  ·rw[if_neg h8] at hc |-
   cases hn:zj7 (slice b f (f+e)) with
   |none=>rw[hn] at hc;exact fin _ _ hc
   |some n=>
    rw[hn] at hc
    simp only at hc |-
    by_cases h6:65536<n
    ·rw[if_pos h6] at hc |-
     exact fin _ _ hc
    ·rw[if_neg h6] at hc |-
     simp only
     unfold km
     rw[hc]
     simp only
     cases(zd6 b (f+e+2+n)).2<;>rfl
theorem za0{b b':List UInt8}{f a' s':Nat}{fr:Frm}(h:zkR b f=some (fr,b',a',s')):b'.length<=b.length/\a'<=b'.length/\s'<=65536/\b'.length-(a'+s')+2<=b.length-f/\fr.2.length<=b.length/\∃ k,b'=b.drop k:=by
 unfold zkR at h
 cases he:zcs (b.drop f) with
 |none=>rw[he] at h;cases h
 |some e=>
  have hle:=zfR he
  have hsl:(slice b f (f+e)).length<=b.length:=jC
  rw[he] at h
  simp only at h
  split at h
  ·cases h
   refine⟨by rw[List.length_drop];omega,Nat.zero_le _,by omega,by rw[List.length_drop];omega,by simp only[List.length_take];omega,_,rfl⟩
  ·split at h
   ·cases h
    refine⟨by rw[List.length_drop];omega,Nat.zero_le _,by omega,by rw[List.length_drop];omega,by simp only[List.length_take];omega,_,rfl⟩
   ·split at h
    ·cases h
     refine⟨by rw[List.length_drop];omega,Nat.zero_le _,by omega,by rw[List.length_drop];omega,by simp only[List.length_take];omega,_,rfl⟩
    ·cases h
     refine⟨Nat.le_refl _,by omega,by omega,by omega,by simp,0,rfl⟩
theorem ziC(N C:Nat)(hC:C<=100000)(hN:100000<N):∀ (m:Nat) (b:List UInt8) (a s:Nat) (se:Int) (out:List Frm),b.length<=100000->a<=b.length->s<=65536->b.length-(a+s)<m->out.length+(b.length-(a+s))<=C ->
  ∃ b' a' s' se',qb N m b (a:Int) (s:Int) se out=some (b',a',s',se',out++(km b (a+s)).1)/\b'.length=(km b (a+s)).2
 |0,b,a,s,se,out,hb,ha,hs,h,ho=>by omega
 |m+1,b,a,s,se,out,hb,ha,hs,h,ho=>by
  unfold qb kH
  by_cases hf:a+s<=b.length
  ·have hp:=zif N (se:=se) hb (by omega) (by omega) hf
   rw[xU hf]
   cases hx:zkR b (a+s) with
   |none=>
    rw[hx] at hp
    obtain⟨se',hp⟩:=hp
    rw[hp]
    exact⟨_,_,_,_,by simp only[Option.bind_some,Bool.not_false,cond_true];rw[List.append_nil],rfl⟩
   |some w=>
    obtain⟨fr,b',a',s'⟩:=w
    rw[hx] at hp
    obtain⟨se',hp⟩:=hp
    obtain⟨h1,h2,h3,h4,h5,_⟩:=za0 hx
    have hlo:Nat.blt (out.length+1) zr=true:=zaq (by omega)
    obtain⟨b2,a2,s2,se2,q1,q2⟩:=ziC N C hC hN m b' a' s' se' (out++[fr]) (by omega) h2 h3 (by omega) (by simp;omega)
    refine⟨b2,a2,s2,se2,?_,q2⟩
    rw[hp]
    simp only[Option.bind_some,Bool.not_true,cond_false,hlo,cond_true]
    rw[q1,List.append_assoc]
    rfl
  ·rw[zoQ N hb ha (by omega) (by omega),zcp (by omega)]
   exact⟨_,_,_,_,by simp only[Option.bind_some,Bool.not_false,cond_true];rw[List.append_nil],rfl⟩
theorem zgg(N:Nat){b:List UInt8}(hb:b.length<=100000)(hN:100000<N):zD N b=some ((zfh b).1,((zfh b).2:Int),()):=by
 unfold zD
 have hp:=zif N (b:=b) (a:=0) (s:=0) (se:=0) hb (by omega) (by omega) (Nat.zero_le _)
 rw[show((0:Nat):Int)=0 from rfl] at hp
 have hlo:Nat.blt b.length zr=true:=zaq (by omega)
 rw[hlo,cond_true,zfi,show km b 0=km b (0+0) from rfl,xU (Nat.zero_le _)]
 cases hx:zkR b (0+0) with
 |none=>
  rw[hx] at hp
  obtain⟨se',hp⟩:=hp
  rw[hp]
  rfl
 |some w=>
  obtain⟨fr,b',a',s'⟩:=w
  rw[hx] at hp
  obtain⟨se',hp⟩:=hp
  obtain⟨h1,h2,h3,h4,h5,_⟩:=za0 hx
  obtain⟨b2,a2,s2,se2,q1,q2⟩:=ziC N 100000 (by omega) hN N b' a' s' se' [fr] (by omega) h2 h3 (by omega) (by simp;omega)
  rw[hp]
  simp only[Option.bind_some,Bool.not_true,cond_false]
  rw[q1]
  simp only[Option.bind_some,qo,q2]
  rfl
theorem zeJ:∀ (m:Nat) (b:List UInt8) (f:Nat),b.length-f<m->(km b f).1.length<=b.length-f
 |0,b,f,h=>by omega
 |m+1,b,f,h=>by
  by_cases hf:f<=b.length
  ·rw[xU hf]
   cases hx:zkR b f with
   |none=>simp
   |some w=>
    obtain⟨fr,b',a',s'⟩:=w
    obtain⟨h1,h2,h3,h4,h5,_⟩:=za0 hx
    have:=zeJ m b' (a'+s') (by omega)
    simp only[List.length_cons];omega
  ·rw[zcp (by omega)];simp
theorem zdv(b:List UInt8):(zfh b).1.length<=b.length:=by rw[zfi];exact zeJ (b.length+1) b 0 (by omega)
abbrev Tok:=Int×(List UInt8×Int)




def kc(t:Tok):UInt8:=nth .u8 [101,115,40,41,119,113,108] t.1.toNat





theorem eqT{a b:Int}(h:a=b):(a==b)=true:=by rw[beq_iff_eq];exact h
theorem eqF{a b:Int}(h:¬ a=b):(a==b)=false:=by simpa using h

theorem zpR{α:Type}{l:List α}{n:Nat}(h:l.length≠n):((((List.length l):Nat):Int)==((n:Nat):Int))=false:=by simp;omega


theorem zhv(c:Bool)(b:Bool):cond c (some (b,())) (some (false,()))=some (c&&b,()):=by cases c<;>rfl
theorem zp1(t k m it mo si fl da t' k' m' it' mo' si' fl' da')(st:List (Int×Int))(hst:st.length<=20001):∀ (n i:Nat),i<=st.length->st.length<n+i ->
  qm 200000 n (i:Int) t k m st it mo si fl da t' k' m' st it' mo' si' fl' da'=some (.inr (t,k,m,st,it,mo,si,fl,da,t',k',m',st,it',mo',si',fl',da'))
 |0,i,h,h'=>by omega
 |n+1,i,h,h'=>by
  unfold qm xw
  by_cases hi:i<st.length
  ·simp only[zk5 hi,cond_true,js hi,Int.toNat_natCast,xi (u:=.pair (.int .u32) (.int .u32)) hi,beq_self_eq_true,Bool.and_true,Bool.not_true,cond_false]
   rw[wri (by omega) (by omega),show((i:Int)+1)=((i+1:Nat):Int) by omega]
   exact zp1 t k m it mo si fl da t' k' m' it' mo' si' fl' da' st hst n (i+1) (by omega) (by omega)
  ·simp only[zk4 hi,cond_false]
def zct(a b:El uS2):Bool:=a.2.2.2.2.2.2.2.2==b.2.2.2.2.2.2.2.2&&(a.1==b.1&&(a.2.1==b.2.1&&(a.2.2.1==b.2.2.1&&(a.2.2.2.2.1==b.2.2.2.2.1&&(a.2.2.2.2.2.1==b.2.2.2.2.2.1&&(a.2.2.2.2.2.2.1==b.2.2.2.2.2.2.1&&a.2.2.2.2.2.2.2.1==b.2.2.2.2.2.2.2.1))))))
theorem zkz(a b:El uS2)(hs:a.2.2.2.1=b.2.2.2.1)(h:a.2.2.2.1.length<=20001):zK 200000 a b=some (zct a b,()):=by
 obtain⟨t,k,m,st,it,mo,si,fl,da⟩:=a
 obtain⟨t',k',m',st',it',mo',si',fl',da'⟩:=b
 simp only at hs h
 subst hs
 have hL:=zp1 t k m it mo si fl da t' k' m' it' mo' si' fl' da' st h 200000 0 (by omega) (by omega)
 rw[show((0:Nat):Int)=(0:Int) from rfl] at hL
 unfold zK zct
 simp only[bne_self_eq_false,cond_false,hL,Option.bind_some,zl]
 simp only[bne]
 cases da==da'<;>simp only[Bool.not_true,Bool.not_false,cond_true,cond_false,Bool.true_and,Bool.false_and,zhv]
theorem zoX(a b:El uS2)(hs:a.2.2.2.1.length≠b.2.2.2.1.length):zK 200000 a b=some (false,()):=by
 unfold zK
 have:((((List.length a.2.2.2.1):Nat):Int) != (((List.length b.2.2.2.1):Nat):Int))=true:=by simp;omega
 simp only[this,cond_true]
theorem zsZ(N:Nat)(s:List UInt8)(hs:s.length<=100000):∀ (m i:Nat),i<=s.length->s.length<m+i ->
  zL N m s (s.length:Int) (i:Int)=some (if(s.drop i).all ze4=true then Sum.inr () else Sum.inl ())
 |0,i,h,h'=>by omega
 |m+1,i,h,h'=>by
  unfold zL wK
  by_cases hi:i<s.length
  ·simp only[zk5 hi,cond_true,js hi,Int.toNat_natCast,xi (u:=.u8) hi,zvx,Option.bind_some,drop_one hi,List.all_cons]
   cases hc:ze4 s[i] with
   |true=>
    simp only[Bool.not_true,cond_false,Bool.true_and]
    rw[wri (by omega) (by omega),show((i:Int)+1)=((i+1:Nat):Int) by omega]
    exact zsZ N s hs m (i+1) (by omega) (by omega)
   |false=>simp
  ·simp only[zk4 hi,cond_false]
   rw[List.drop_eq_nil_of_le (by omega)]
   simp
theorem zp2(N:Nat)(s:List UInt8)(hs:s.length<=100000):∀ (m i:Nat),i<=s.length->s.length<m+i ->
  ql N m s (i:Int)=some (if(s.drop i).all ze4=true then Sum.inr s else Sum.inl ())
 |0,i,h,h'=>by omega
 |m+1,i,h,h'=>by
  unfold ql xo
  by_cases hi:i<s.length
  ·simp only[zk5 hi,cond_true,js hi,Int.toNat_natCast,xi (u:=.u8) hi,zvy,Option.bind_some,drop_one hi,List.all_cons]
   cases hc:ze4 s[i] with
   |true=>
    simp only[Bool.not_true,cond_false,Bool.true_and]
    rw[wri (by omega) (by omega),show((i:Int)+1)=((i+1:Nat):Int) by omega]
    exact zp2 N s hs m (i+1) (by omega) (by omega)
   |false=>simp
  ·simp only[zk4 hi,cond_false]
   rw[List.drop_eq_nil_of_le (by omega)]
   simp
def zdG(s:List UInt8):Bool:=s != []&&s.all ze4
theorem zmx(s:List UInt8)(hs:s.length<=20000):kj 200000 s=some (zdG s,()):=by
 have hL:=zp2 200000 s (by omega) 200000 0 (by omega) (by omega)
 rw[show((0:Nat):Int)=(0:Int) from rfl,List.drop_zero] at hL
 unfold kj zdG
 rw[hL]
 cases s.all ze4<;>simp [zl]
theorem zrR(st:List (Int×Int)):zp 200000 st []=some (decide (st=[]),()):=by
 unfold zp
 cases st with
 |nil=>rfl
 |cons a r=>
  have:((((List.length (a::r)):Nat):Int) != (((List.length ([]:List (Int×Int))):Nat):Int))=true:=by simp;omega
  simp only[this,cond_true]
  simp
def zpy(m:List UInt8)(st:List (Int×Int))(it mo:Int)(si:Bool)(fl:UInt8)(da:List UInt8):Bool:=m==[]&&(decide (st=[])&&(it==0&&(mo==0&&(si==false&&(fl==0&&da==[])))))
theorem znw(m:List UInt8)(st:List (Int×Int))(it mo:Int)(si:Bool)(fl:UInt8)(da:List UInt8):
  qa 200000 (([]:List UInt8),((0:Int),(m,(st,(it,(mo,(si,(fl,da)))))))) (([]:List UInt8),((0:Int),(([]:List UInt8),(([]:List (Int×Int)),((0:Int),((0:Int),(false,((0:UInt8),([]:List UInt8)))))))))=some (zpy m st it mo si fl da,()):=by
 unfold qa zpy
 simp only[beq_self_eq_true,cond_true,zrR,Option.bind_some,zhv]
theorem zn8(k:Int):∃ v,zN 200000 k=some (v,())/\(v==([]:List UInt8))=!(decide (1<=k)&&decide (k<=8)):=by
 unfold zN
 by_cases h1:1<=k
 ·by_cases h8:k<=8
  ·have e1:decide ((1:Int)<=k)=true:=by simpa using h1
   have e2:decide (k<=(8:Int))=true:=by simpa using h8
   simp only[e1,e2,cond_true]
   have:k=1\/k=2\/k=3\/k=4\/k=5\/k=6\/k=7\/k=8:=by omega
   rcases this with rfl|rfl|rfl|rfl|rfl|rfl|rfl|rfl<;>exact⟨_,rfl,rfl⟩
  ·have e1:decide ((1:Int)<=k)=true:=by simpa using h1
   have e2:decide (k<=(8:Int))=false:=by simpa using h8
   simp only[e1,e2,cond_true,cond_false]
   exact⟨_,rfl,rfl⟩
 ·have e1:decide ((1:Int)<=k)=false:=by simpa using h1
  simp only[e1,cond_false]
  exact⟨_,rfl,rfl⟩
def VP(t:List UInt8)(k:Int)(m:List UInt8)(st:List (Int×Int))(it mo:Int)(si:Bool)(fl:UInt8)(da:List UInt8):Prop:=
 zdG t=true/\1<=k/\k<=8/\m.length<=65536/\da.length<=65536/\fl<=31 /\
 ((k=5/\st=[]/\it=0/\mo=0/\si=false/\fl=0/\da=[])\/(k=6/\st=[]/\it=0/\mo=0/\si=false) \/
  (k=7/\m=[]/\st≠[]/\1<=it/\it<=31/\mo=0/\si=false/\fl=0/\da=[])\/(k=8/\m=[]/\st≠[]/\it=0/\0<=mo/\mo<=2/\da=[]) \/
  (k<=4/\m=[]/\st=[]/\it=0/\mo=0/\si=false/\fl=0/\da=[]))
def zod(o:Option (Bool×Unit))(p:Prop):Prop:=∃ b:Bool,o=some (b,())/\(b=true↔p)
theorem qP{p:Prop}(h:¬ p):zod (some (false,())) p:=⟨false,rfl,by simp [h]⟩
theorem ziv{b:Bool}{p:Prop}(h:b=true↔p):zod (some (b,())) p:=⟨b,rfl,h⟩
theorem max_le(a b:Nat):decide ((65536:Int)<(if((b:Nat):Int) > ((a:Nat):Int) then((b:Nat):Int) else((a:Nat):Int)))=!(decide (a<=65536)&&decide (b<=65536)):=by
 rw[Bool.eq_iff_iff]
 by_cases h:((b:Nat):Int) > ((a:Nat):Int)
 ·rw[if_pos h];simp;omega
 ·rw[if_neg h];simp;omega
theorem zbj{m:List UInt8}{st:List (Int×Int)}{it mo:Int}{si:Bool}{fl:UInt8}{da:List UInt8}:zpy m st it mo si fl da=true↔m=[]/\st=[]/\it=0/\mo=0/\si=false/\fl=0/\da=[]:=by
 unfold zpy
 simp only[Bool.and_eq_true,beq_iff_eq,decide_eq_true_eq]
theorem zgo(t:List UInt8)(k:Int)(m:List UInt8)(st:List (Int×Int))(it mo:Int)(si:Bool)(fl:UInt8)(da:List UInt8)(ht:t.length<=20000):
  zod (jS 200000 (t,(k,(m,(st,(it,(mo,(si,(fl,da)))))))))  (VP t k m st it mo si fl da):=by
 have hL:=zsZ 200000 t (by omega) 200000 0 (by omega) (by omega)
 rw[show((0:Nat):Int)=(0:Int) from rfl,List.drop_zero] at hL
 obtain⟨v,hv1,hv2⟩:=zn8 k
 unfold jS
 simp only[hL,hv1,Option.bind_some,hv2,max_le]
 by_cases h0:t=[]
 ·have:(t != ([]:List UInt8))=false:=by simpa using h0
  simp only[this,cond_false]
  exact qP (fun h=>by have:=h.1;simp [zdG,h0] at this)
 ·have e0:(t != ([]:List UInt8))=true:=by simpa using h0
  simp only[e0,cond_true]
  cases hall:t.all ze4 with
  |false=>
   simp only[Bool.false_eq_true,if_false,zl]
   exact qP (fun h=>by have:=h.1;simp [zdG,hall] at this)
  |true=>
   have hit:zdG t=true:=by unfold zdG;rw[e0,hall];rfl
   simp only[if_true,zl]
   by_cases h18:1<=k/\k<=8
   ·have e1:(decide ((1:Int)<=k)&&decide (k<=(8:Int)))=true:=by simpa using h18
    simp only[e1,Bool.not_true,cond_false]
    by_cases hf:fl<=31
    ·have e2:decide ((31:UInt8)<fl)=false:=by
      rw[decide_eq_false_iff_not];exact UInt8.not_lt.2 hf
     simp only[e2,cond_false]
     by_cases hml:m.length<=65536/\da.length<=65536
     ·have e3:(decide (m.length<=65536)&&decide (da.length<=65536))=true:=by simpa using hml
      simp only[e3,Bool.not_true,cond_false]
      by_cases h5:k=5
      ·simp only[eqT h5,cond_true]
       rw[znw,Option.bind_some]
       refine ziv ?_
       unfold VP
       rw[zbj]
       constructor
       ·rintro⟨_,a1,a2,a3,a4,a5,a6⟩
        exact⟨hit,h18.1,h18.2,hml.1,hml.2,hf,.inl ⟨h5,a1,a2,a3,a4,a5,a6⟩⟩
       ·rintro⟨_,_,_,_,_,_,h|h|h|h|h⟩
        ·exact⟨rfl,h.2⟩
        ·omega
        ·omega
        ·omega
        ·omega
      ·simp only[eqF h5,cond_false]
       by_cases h6:k=6
       ·simp only[eqT h6,cond_true]
        rw[znw,Option.bind_some]
        refine ziv ?_
        unfold VP
        rw[zbj]
        constructor
        ·rintro⟨_,a1,a2,a3,a4,_,_⟩
         exact⟨hit,h18.1,h18.2,hml.1,hml.2,hf,.inr (.inl ⟨h6,a1,a2,a3,a4⟩)⟩
        ·rintro⟨_,_,_,_,_,_,h|h|h|h|h⟩
         ·omega
         ·exact⟨rfl,h.2.1,h.2.2.1,h.2.2.2.1,h.2.2.2.2,rfl,rfl⟩
         ·omega
         ·omega
         ·omega
       ·simp only[eqF h6,cond_false]
        by_cases h7:k=7
        ·simp only[eqT h7,cond_true]
         by_cases hst:st=[]
         ·simp only[hst,List.length_nil,show(((0:Nat):Int)==(0:Int))=true from rfl,cond_true]
          exact qP (fun h=>by
           obtain⟨_,_,_,_,_,_,h|h|h|h|h⟩:=h
           ·omega
           ·omega
           ·exact h.2.2.1 rfl
           ·omega
           ·omega)
         ·have e4:((((List.length st):Nat):Int)==(0:Int))=false:=zpR (n:=0) (by simpa using hst)
          simp only[e4,cond_false]
          by_cases hi1:it<1
          ·simp only[show decide (it<(1:Int))=true from by simpa using hi1,cond_true]
           exact qP (fun h=>by
            obtain⟨_,_,_,_,_,_,h|h|h|h|h⟩:=h<;>omega)
          ·simp only[show decide (it<(1:Int))=false from by simpa using hi1,cond_false]
           by_cases hi2:31<it
           ·simp only[show decide ((31:Int)<it)=true from by simpa using hi2,cond_true]
            exact qP (fun h=>by
             obtain⟨_,_,_,_,_,_,h|h|h|h|h⟩:=h<;>omega)
           ·simp only[show decide ((31:Int)<it)=false from by simpa using hi2,cond_false]
            rw[znw,Option.bind_some]
            refine ziv ?_
            unfold VP
            rw[zbj]
            constructor
            ·rintro⟨a0,_,_,a3,a4,a5,a6⟩
             exact⟨hit,h18.1,h18.2,hml.1,hml.2,hf,.inr (.inr (.inl ⟨h7,a0,hst,by omega,by omega,a3,a4,a5,a6⟩))⟩
            ·rintro⟨_,_,_,_,_,_,h|h|h|h|h⟩
             ·omega
             ·omega
             ·exact⟨h.2.1,rfl,rfl,h.2.2.2.2.2⟩
             ·omega
             ·omega
        ·simp only[eqF h7,cond_false]
         by_cases h8:k=8
         ·simp only[eqT h8,cond_true]
          by_cases hst:st=[]
          ·simp only[hst,List.length_nil,show(((0:Nat):Int)==(0:Int))=true from rfl,cond_true]
           exact qP (fun h=>by
            obtain⟨_,_,_,_,_,_,h|h|h|h|h⟩:=h
            ·omega
            ·omega
            ·omega
            ·exact h.2.2.1 rfl
            ·omega)
          ·have e4:((((List.length st):Nat):Int)==(0:Int))=false:=zpR (n:=0) (by simpa using hst)
           simp only[e4,cond_false]
           by_cases hi1:mo<0
           ·simp only[show decide (mo<(0:Int))=true from by simpa using hi1,cond_true]
            exact qP (fun h=>by
             obtain⟨_,_,_,_,_,_,h|h|h|h|h⟩:=h<;>omega)
           ·simp only[show decide (mo<(0:Int))=false from by simpa using hi1,cond_false]
            by_cases hi2:2<mo
            ·simp only[show decide ((2:Int)<mo)=true from by simpa using hi2,cond_true]
             exact qP (fun h=>by
              obtain⟨_,_,_,_,_,_,h|h|h|h|h⟩:=h<;>omega)
            ·simp only[show decide ((2:Int)<mo)=false from by simpa using hi2,cond_false]
             rw[znw,Option.bind_some]
             refine ziv ?_
             unfold VP
             rw[zbj]
             constructor
             ·rintro⟨a0,_,a2,_,_,_,a6⟩
              exact⟨hit,h18.1,h18.2,hml.1,hml.2,hf,.inr (.inr (.inr (.inl ⟨h8,a0,hst,a2,by omega,by omega,a6⟩)))⟩
             ·rintro⟨_,_,_,_,_,_,h|h|h|h|h⟩
              ·omega
              ·omega
              ·omega
              ·exact⟨h.2.1,rfl,h.2.2.2.1,rfl,rfl,rfl,h.2.2.2.2.2.2⟩
              ·omega
         ·simp only[eqF h8,cond_false]
          rw[znw,Option.bind_some]
          refine ziv ?_
          unfold VP
          rw[zbj]
          constructor
          ·rintro⟨a0,a1,a2,a3,a4,a5,a6⟩
           exact⟨hit,h18.1,h18.2,hml.1,hml.2,hf,.inr (.inr (.inr (.inr ⟨by omega,a0,a1,a2,a3,a4,a5,a6⟩)))⟩
          ·rintro⟨_,_,_,_,_,_,h|h|h|h|h⟩
           ·omega
           ·omega
           ·omega
           ·omega
           ·exact h.2
     ·have e3:(decide (m.length<=65536)&&decide (da.length<=65536))=false:=by
       rw[Bool.eq_false_iff];intro h;exact hml (by simpa using h)
      simp only[e3,Bool.not_false,cond_true]
      exact qP (fun h=>hml ⟨h.2.2.2.1,h.2.2.2.2.1⟩)
    ·have e2:decide ((31:UInt8)<fl)=true:=by
      rw[decide_eq_true_eq];exact UInt8.not_le.1 hf
     simp only[e2,cond_true]
     exact qP (fun h=>hf h.2.2.2.2.2.1)
   ·have e1:(decide ((1:Int)<=k)&&decide (k<=(8:Int)))=false:=by
     rw[Bool.eq_false_iff];intro h;exact h18 (by simpa using h)
    simp only[e1,Bool.not_false,cond_true]
    exact qP (fun h=>h18 ⟨h.2.1,h.2.2.1⟩)
theorem zbf{o:Option (Bool×Unit)}{p:Prop}(h:zod o p):zod (Option.bind o fun y=>some (y.1,())) p:=by
 obtain⟨b,h1,h2⟩:=h
 rw[h1];exact⟨b,rfl,h2⟩
theorem zcV{o:Option (Bool×Unit)}{p q:Prop}(h:zod o p)(hpq:p↔q):zod o q:=by
 obtain⟨b,h1,h2⟩:=h
 exact⟨b,h1,h2.trans hpq⟩
theorem znk(a b:El uS2)(hb:b.2.2.2.1=[])(h:a.2.2.2.1.length<=20001):zod (zK 200000 a b) (a.2.2.2.1=[]/\zct a b=true):=by
 by_cases ha:a.2.2.2.1=[]
 ·exact⟨_,zkz a b (by rw[ha,hb]) h,by simp [ha]⟩
 ·refine⟨false,zoX a b ?_,by simp [ha]⟩
  rw[hb]
  intro h0
  exact ha (List.length_eq_zero_iff.1 h0)
theorem zsk(a b:El uS2)(hb:a.2.2.2.1=b.2.2.2.1)(h:a.2.2.2.1.length<=20001):zod (zK 200000 a b) (zct a b=true):=⟨_,zkz a b hb h,Iff.rfl⟩
theorem ziL(t:List UInt8)(k:Int)(m:List UInt8)(st:List (Int×Int))(it mo:Int)(si:Bool)(fl:UInt8)(da:List UInt8)(ht:t.length<=20000)(hst:st.length<=20001):
  zod (kk 200000 (t,(k,(m,(st,(it,(mo,(si,(fl,da)))))))))  (VP t k m st it mo si fl da):=by
 have hit:=zmx t ht
 unfold kk
 simp only[hit,Option.bind_some]
 cases hT:zdG t with
 |false=>
  simp only[Bool.not_false,cond_true]
  exact qP (fun h=>by have:=h.1;rw[hT] at this;cases this)
 |true=>
  simp only[Bool.not_true,cond_false]
  by_cases h1:k<1
  ·simp only[show decide (k<(1:Int))=true from by simpa using h1,cond_true]
   exact qP (fun h=>by have:=h.2.1;omega)
  ·simp only[show decide (k<(1:Int))=false from by simpa using h1,cond_false]
   by_cases h8:8<k
   ·simp only[show decide ((8:Int)<k)=true from by simpa using h8,cond_true]
    exact qP (fun h=>by have:=h.2.2.1;omega)
   ·simp only[show decide ((8:Int)<k)=false from by simpa using h8,cond_false]
    by_cases h5:k=5
    ·simp only[eqT h5,cond_true]
     by_cases hm:m.length<=65536
     ·simp only[show decide ((((List.length m):Nat):Int)<=(65536:Int))=true from by simp;omega,cond_true]
      refine zcV (zbf (znk _ _ rfl hst)) ?_
      unfold VP zct
      simp only[beq_self_eq_true,Bool.true_and,Bool.and_eq_true,beq_iff_eq]
      constructor
      ·rintro⟨a1,a6,a2,a3,a4,a5⟩
       exact⟨hT,by omega,by omega,hm,by rw[a6];simp,by rw[a5];decide,.inl ⟨h5,a1,a2,a3,a4,a5,a6⟩⟩
      ·rintro⟨_,_,_,_,_,_,h|h|h|h|h⟩
       ·exact⟨h.2.1,h.2.2.2.2.2.2,h.2.2.1,h.2.2.2.1,h.2.2.2.2.1,h.2.2.2.2.2.1⟩
       ·omega
       ·omega
       ·omega
       ·omega
     ·simp only[show decide ((((List.length m):Nat):Int)<=(65536:Int))=false from by simp;omega,cond_false]
      exact qP (fun h=>hm h.2.2.2.1)
    ·simp only[eqF h5,cond_false]
     by_cases h6:k=6
     ·simp only[eqT h6,cond_true]
      by_cases hm:m.length<=65536
      ·simp only[show decide ((((List.length m):Nat):Int)<=(65536:Int))=true from by simp;omega,cond_true]
       by_cases hd:da.length<=65536
       ·simp only[show decide ((((List.length da):Nat):Int)<=(65536:Int))=true from by simp;omega,cond_true]
        by_cases hf:fl<=31
        ·simp only[show decide (fl<=(31:UInt8))=true from by simpa using hf,cond_true]
         refine zcV (zbf (znk _ _ rfl hst)) ?_
         unfold VP zct
         simp only[beq_self_eq_true,Bool.true_and,Bool.and_true,Bool.and_eq_true,beq_iff_eq]
         constructor
         ·rintro⟨a1,a2,a3,a4⟩
          exact⟨hT,by omega,by omega,hm,hd,hf,.inr (.inl ⟨h6,a1,a2,a3,a4⟩)⟩
         ·rintro⟨_,_,_,_,_,_,h|h|h|h|h⟩
          ·omega
          ·exact h.2
          ·omega
          ·omega
          ·omega
        ·simp only[show decide (fl<=(31:UInt8))=false from by simpa using hf,cond_false]
         exact qP (fun h=>hf h.2.2.2.2.2.1)
       ·simp only[show decide ((((List.length da):Nat):Int)<=(65536:Int))=false from by simp;omega,cond_false]
        exact qP (fun h=>hd h.2.2.2.2.1)
      ·simp only[show decide ((((List.length m):Nat):Int)<=(65536:Int))=false from by simp;omega,cond_false]
       exact qP (fun h=>hm h.2.2.2.1)
     ·simp only[eqF h6,cond_false]
      by_cases h7:k=7
      ·simp only[eqT h7,cond_true]
       by_cases hs:st=[]
       ·simp only[hs,List.length_nil,show decide ((0:Int)<((0:Nat):Int))=false from rfl,cond_false]
        exact qP (fun h=>by
         obtain⟨_,_,_,_,_,_,h|h|h|h|h⟩:=h
         ·omega
         ·omega
         ·exact h.2.2.1 rfl
         ·omega
         ·omega)
       ·have:0<st.length:=List.length_pos_iff.2 hs
        simp only[show decide ((0:Int)<(((List.length st):Nat):Int))=true from by simp;omega,cond_true]
        by_cases hi1:1<=it
        ·simp only[show decide ((1:Int)<=it)=true from by simpa using hi1,cond_true]
         by_cases hi2:it<=31
         ·simp only[show decide (it<=(31:Int))=true from by simpa using hi2,cond_true]
          refine zcV (zbf (zsk _ _ rfl hst)) ?_
          unfold VP zct
          simp only[beq_self_eq_true,Bool.true_and,Bool.and_eq_true,beq_iff_eq]
          constructor
          ·rintro⟨a6,a0,a3,a4,a5⟩
           exact⟨hT,by omega,by omega,by rw[a0];simp,by rw[a6];simp,by rw[a5];decide,.inr (.inr (.inl ⟨h7,a0,hs,hi1,hi2,a3,a4,a5,a6⟩))⟩
          ·rintro⟨_,_,_,_,_,_,h|h|h|h|h⟩
           ·omega
           ·omega
           ·exact⟨h.2.2.2.2.2.2.2.2,h.2.1,h.2.2.2.2.2.1,h.2.2.2.2.2.2.1,h.2.2.2.2.2.2.2.1⟩
           ·omega
           ·omega
         ·simp only[show decide (it<=(31:Int))=false from by simpa using hi2,cond_false]
          exact qP (fun h=>by
           obtain⟨_,_,_,_,_,_,h|h|h|h|h⟩:=h<;>omega)
        ·simp only[show decide ((1:Int)<=it)=false from by simpa using hi1,cond_false]
         exact qP (fun h=>by
          obtain⟨_,_,_,_,_,_,h|h|h|h|h⟩:=h<;>omega)
      ·simp only[eqF h7,cond_false]
       by_cases h9:k=8
       ·simp only[eqT h9,cond_true]
        by_cases hs:st=[]
        ·simp only[hs,List.length_nil,show decide ((0:Int)<((0:Nat):Int))=false from rfl,cond_false]
         exact qP (fun h=>by
          obtain⟨_,_,_,_,_,_,h|h|h|h|h⟩:=h
          ·omega
          ·omega
          ·omega
          ·exact h.2.2.1 rfl
          ·omega)
        ·have:0<st.length:=List.length_pos_iff.2 hs
         simp only[show decide ((0:Int)<(((List.length st):Nat):Int))=true from by simp;omega,cond_true]
         by_cases hi1:0<=mo
         ·simp only[show decide ((0:Int)<=mo)=true from by simpa using hi1,cond_true]
          by_cases hi2:mo<=2
          ·simp only[show decide (mo<=(2:Int))=true from by simpa using hi2,cond_true]
           by_cases hf:fl<=31
           ·simp only[show decide (fl<=(31:UInt8))=true from by simpa using hf,cond_true]
            refine zcV (zbf (zsk _ _ rfl hst)) ?_
            unfold VP zct
            simp only[beq_self_eq_true,Bool.true_and,Bool.and_true,Bool.and_eq_true,beq_iff_eq]
            constructor
            ·rintro⟨a6,a0,a3⟩
             exact⟨hT,by omega,by omega,by rw[a0];simp,by rw[a6];simp,hf,.inr (.inr (.inr (.inl ⟨h9,a0,hs,a3,hi1,hi2,a6⟩)))⟩
            ·rintro⟨_,_,_,_,_,_,h|h|h|h|h⟩
             ·omega
             ·omega
             ·omega
             ·exact⟨h.2.2.2.2.2.2,h.2.1,h.2.2.2.1⟩
             ·omega
           ·simp only[show decide (fl<=(31:UInt8))=false from by simpa using hf,cond_false]
            exact qP (fun h=>hf h.2.2.2.2.2.1)
          ·simp only[show decide (mo<=(2:Int))=false from by simpa using hi2,cond_false]
           exact qP (fun h=>by
            obtain⟨_,_,_,_,_,_,h|h|h|h|h⟩:=h<;>omega)
         ·simp only[show decide ((0:Int)<=mo)=false from by simpa using hi1,cond_false]
          exact qP (fun h=>by
           obtain⟨_,_,_,_,_,_,h|h|h|h|h⟩:=h<;>omega)
       ·simp only[eqF h9,cond_false]
        refine zcV (zbf (znk _ _ rfl hst)) ?_
        unfold VP zct
        simp only[beq_self_eq_true,Bool.true_and,Bool.and_eq_true,beq_iff_eq]
        constructor
        ·rintro⟨a1,a6,a0,a2,a3,a4,a5⟩
         exact⟨hT,by omega,by omega,by rw[a0];simp,by rw[a6];simp,by rw[a5];decide,.inr (.inr (.inr (.inr ⟨by omega,a0,a1,a2,a3,a4,a5,a6⟩)))⟩
        ·rintro⟨_,_,_,_,_,_,h|h|h|h|h⟩
         ·omega
         ·omega
         ·omega
         ·omega
         ·exact⟨h.2.2.1,h.2.2.2.2.2.2.2,h.2.1,h.2.2.2.1,h.2.2.2.2.1,h.2.2.2.2.2.1,h.2.2.2.2.2.2.1⟩
theorem zar{a b:Nat}(h:a+b<4611686018427387904):decide (a+b<4611686018427387904)=true:=decide_eq_true h
theorem ziU{a:Nat}(h:a<549755813888):Nat.blt a zr=true:=by rw[Nat.blt_eq];exact h
def zoA(b:List UInt8):List UInt8:=[123]++dec b.length++[125,13,10]++b
theorem zkn(b:List UInt8)(hb:b.length<=100000):qz 200000 b=some (zoA b,()):=by
 unfold qz zoA
 have hd:=zeK b.length
 rw[zkJ (by omega),zgy 200000 b.length (by omega) (by omega)]
 simp only[Option.bind_some]
 generalize dec b.length=d at hd |-
 simp (disch:=(simp only[List.length_append,List.length_cons,List.length_nil];omega)) only[zar,cond_true]
 have hH:((([123]:List UInt8)++d)++([125]:List UInt8))++([13,10]:List UInt8)=[123]++d++[125,13,10]:=by simp
 rw[hH]
 have hl:([123]++d++[125,13,10]:List UInt8).length=d.length+4:=by simp
 generalize([123]++d++[125,13,10]:List UInt8)=H at hl |-
 rw[wri (by omega) (by omega),show((H.length:Int)+(b.length:Int))=((H.length+b.length:Nat):Int) by omega]
 simp only[Int.toNat_natCast,List.length_replicate]
 rw[decide_eq_true (show((H.length+b.length:Nat):Int)<=((H.length+b.length:Nat):Int) by omega),decide_eq_true (show(0:Int)<=((H.length+b.length:Nat):Int) by omega),decide_eq_true (show((H.length+b.length:Nat):Int)<(549755813888:Int) by omega)]
 simp only[Bool.true_or,Bool.and_self,cond_true]
 rw[List.take_of_length_le (show H.length<=H.length+b.length by omega),Nat.min_eq_left (show H.length<=H.length+b.length by omega)]
 have hu:wz (List.replicate (H.length+b.length) (0:UInt8)) 0 H=H++List.replicate b.length 0:=by
  unfold wz
  rw[List.take_zero,List.nil_append,Nat.zero_add,List.drop_replicate,Nat.add_sub_cancel_left]
 rw[hu]
 rw[xA (show H.length<=(H++List.replicate b.length (0:UInt8)).length by simp) (Nat.le_refl _)]
 simp only[Bool.and_self,cond_true]
 have hv:wz (H++List.replicate b.length (0:UInt8)) H.length (List.take ((H++List.replicate b.length (0:UInt8)).length-H.length) b)=H++b:=by
  unfold wz
  rw[List.length_append,List.length_replicate,Nat.add_sub_cancel_left,List.take_length,List.take_left,List.drop_append,List.drop_of_length_le (by omega)]
  simp
 rw[hv]
theorem zhT(b:List UInt8)(hb:b.length<=100000):qB 200000 b=some (zoA b,()):=by
 unfold qB zoA
 have hd:=zeK b.length
 rw[zkJ (by omega),zi2 200000 b.length (by omega) (by omega)]
 simp only[Option.bind_some]
 generalize dec b.length=d at hd |-
 simp (disch:=(simp only[List.length_append,List.length_cons,List.length_nil];omega)) only[zar,ziU,cond_true]
def zme(c:UInt8):List UInt8:=if c=34\/c=92 then[92,c] else[c]
def esc(s:List UInt8):List UInt8:=s.flatMap zme
theorem zgB:∀ s:List UInt8,(esc s).length<=2*s.length
 | []=>by simp [esc]
 |c::s=>by
  have:=zgB s
  unfold esc at this |-
  rw[List.flatMap_cons,List.length_append]
  have h1:(zme c).length<=2:=by unfold zme;split<;>simp
  simp only[List.length_cons];omega
def zfz(s:List UInt8):Option (List UInt8):=if s.all zbc=true then some ([34]++esc s++[34]) else none
def prU{α β:Type}:α ⊕ β->Option β
 |.inl _=>none
 |.inr o=>some o
theorem zen(N:Nat){s:List UInt8}(hs:s.length<=20000):∀ (m i:Nat) (out:List UInt8),i<=s.length->s.length<m+i->out.length<=2*i+1 ->
  ∃ o,zR N m s ((s.length:Nat):Int) (i:Int) out=some o/\prU o=if(s.drop i).all zbc=true then some (out++esc (s.drop i)) else none
 |0,i,out,hi,h,ho=>by omega
 |m+1,i,out,hi,h,ho=>by
  unfold zR wZ
  by_cases hl:i<s.length
  ·have hw:IntKind.wrap .i64 ((i:Int)+1)=((i+1:Nat):Int):=by rw[wri (by omega) (by omega)];omega
   have hn:nth .u8 s (Int.toNat (i:Int))=s[i]:=by rw[Int.toNat_natCast];exact xi (u:=.u8) hl
   simp only[zk5 hl,cond_true,js hl,hn,hw,ztF,Option.bind_some]
   rw[drop_one hl,List.all_cons]
   cases ht:zbc s[i] with
   |false=>exact⟨_,rfl,by simp [prU]⟩
   |true=>
    simp only[Bool.not_true,cond_false,Bool.true_and]
    have b1:Nat.blt (out.length+1) zr=true:=zaq (by omega)
    have b2:Nat.blt ((out++[(92:UInt8)]).length+1) zr=true:=zaq (by simp;omega)
    have he:esc (s[i]::s.drop (i+1))=zme s[i]++esc (s.drop (i+1)):=by unfold esc;rw[List.flatMap_cons]
    rw[he]
    by_cases c1:s[i]=34
    ·obtain⟨o,h1,h2⟩:=zen N hs m (i+1) (out++[92]++[s[i]]) (by omega) (by omega) (by simp;omega)
     refine⟨o,?_,?_⟩
     ·simp only[c1,beq_self_eq_true,cond_true,b1,b2] at h1 |-;exact h1
     ·rw[h2];simp [zme,c1]
    ·by_cases c2:s[i]=92
     ·obtain⟨o,h1,h2⟩:=zen N hs m (i+1) (out++[92]++[s[i]]) (by omega) (by omega) (by simp;omega)
      refine⟨o,?_,?_⟩
      ·have:((92:UInt8)==34)=false:=rfl
       simp only[c2,this,beq_self_eq_true,cond_true,cond_false,b1,b2] at h1 |-;exact h1
      ·rw[h2];simp [zme,c2]
     ·obtain⟨o,h1,h2⟩:=zen N hs m (i+1) (out++[s[i]]) (by omega) (by omega) (by simp;omega)
      refine⟨o,?_,?_⟩
      ·simp only[beq_eq_false_iff_ne.2 c1,beq_eq_false_iff_ne.2 c2,cond_false,b1,cond_true];exact h1
      ·rw[h2];simp [zme,c1,c2]
  ·have hd:s.drop i=[]:=List.drop_of_length_le (by omega)
   simp only[zk4 hl,cond_false]
   rw[hd]
   exact⟨_,rfl,by simp [prU,esc]⟩
theorem zmA{s:List UInt8}(hs:s.length<=20000):wC 200000 s=some (match zfz s with|some q=>(q,true,())|none=>([],false,())):=by
 unfold wC zfz
 obtain⟨o,h1,h2⟩:=zen 200000 hs 200000 0 [34] (Nat.zero_le _) (by omega) (by simp)
 rw[show((0:Nat):Int)=0 from rfl] at h1
 rw[h1,Option.bind_some]
 rw[List.drop_zero] at h2
 have hl:=zgB s
 by_cases ha:s.all zbc=true
 ·rw[if_pos ha] at h2 |-
  cases o with
  |inl=>cases h2
  |inr q=>
   cases h2
   simp only[zl]
   have b1:Nat.blt (([34]++esc s:List UInt8).length+1) zr=true:=zaq (by simp;omega)
   have b2:Nat.blt 0 ([34]++esc s++[34]:List UInt8).length=true:=by simp [Nat.blt_eq]
   have b3:Nat.blt ([34]++esc s++[34]:List UInt8).length zr=true:=zaq (by simp;omega)
   rw[b1,b2,b3]
   simp
 ·rw[if_neg ha] at h2 |-
  cases o with
  |inl=>rfl
  |inr q=>cases h2
theorem zgL(N:Nat){s:List UInt8}(hs:s.length<=20000):∀ (m i:Nat) (out:List UInt8),i<=s.length->s.length<m+i->out.length<=2*i+1 ->
  ∃ o,qe N m s out (i:Int)=some o/\prU o=if(s.drop i).all zbc=true then some (out++esc (s.drop i)) else none
 |0,i,out,hi,h,ho=>by omega
 |m+1,i,out,hi,h,ho=>by
  unfold qe kP
  by_cases hl:i<s.length
  ·have hw:IntKind.wrap .i64 ((i:Int)+1)=((i+1:Nat):Int):=by rw[wri (by omega) (by omega)];omega
   have hn:nth .u8 s (Int.toNat (i:Int))=s[i]:=by rw[Int.toNat_natCast];exact xi (u:=.u8) hl
   have hn':nth .u8 s i=s[i]:=xi (u:=.u8) hl
   have hsl:slice s i (i+1)=[s[i]]:=by
    unfold slice;rw[Nat.add_sub_cancel_left,drop_one hl];rfl
   simp only[zk5 hl,cond_true,js hl,hn,hw,ztG,Option.bind_some,xA (show i<=i+1 by omega) (show i+1<=s.length by omega),Bool.and_true,Int.toNat_natCast,hsl,hn']
   rw[drop_one hl,List.all_cons]
   cases ht:zbc s[i] with
   |false=>exact⟨.inl (),rfl,by simp [prU]⟩
   |true=>
    simp only[Bool.not_true,cond_false,Bool.true_and]
    have he:esc (s[i]::s.drop (i+1))=zme s[i]++esc (s.drop (i+1)):=by unfold esc;rw[List.flatMap_cons]
    rw[he]
    by_cases c1:s[i]=34
    ·obtain⟨o,h1,h2⟩:=zgL N hs m (i+1) (out++[92]++[s[i]]) (by omega) (by omega) (by simp;omega)
     refine⟨o,?_,?_⟩
     ·simp only[c1,beq_self_eq_true,cond_true] at h1 |-
      simp (disch:=(simp only[List.length_append,List.length_cons,List.length_nil];omega)) only[zar,cond_true]
      exact h1
     ·rw[h2];simp [zme,c1]
    ·by_cases c2:s[i]=92
     ·obtain⟨o,h1,h2⟩:=zgL N hs m (i+1) (out++[92]++[s[i]]) (by omega) (by omega) (by simp;omega)
      refine⟨o,?_,?_⟩
      ·have:((92:UInt8)==34)=false:=rfl
       simp only[c2,this,beq_self_eq_true,cond_true,cond_false] at h1 |-
       simp (disch:=(simp only[List.length_append,List.length_cons,List.length_nil];omega)) only[zar,cond_true]
       exact h1
      ·rw[h2];simp [zme,c2]
     ·obtain⟨o,h1,h2⟩:=zgL N hs m (i+1) (out++[s[i]]) (by omega) (by omega) (by simp;omega)
      refine⟨o,?_,?_⟩
      ·simp only[beq_eq_false_iff_ne.2 c1,beq_eq_false_iff_ne.2 c2,cond_false,cond_true]
       simp (disch:=(simp only[List.length_append,List.length_cons,List.length_nil];omega)) only[zar,cond_true]
       exact h1
      ·rw[h2];simp [zme,c1,c2]
  ·have hd:s.drop i=[]:=List.drop_of_length_le (by omega)
   simp only[zk4 hl,cond_false]
   rw[hd]
   exact⟨_,rfl,by simp [prU,esc]⟩
theorem zov{s:List UInt8}(hs:s.length<=20000):wE 200000 s=some (match zfz s with|some q=>(q,true,())|none=>([],false,())):=by
 unfold wE zfz
 obtain⟨o,h1,h2⟩:=zgL 200000 hs 200000 0 [34] (Nat.zero_le _) (by omega) (by simp)
 rw[show((0:Nat):Int)=0 from rfl] at h1
 rw[h1,Option.bind_some]
 rw[List.drop_zero] at h2
 have hl:=zgB s
 by_cases ha:s.all zbc=true
 ·rw[if_pos ha] at h2 |-
  cases o with
  |inl=>cases h2
  |inr q=>
   cases h2
   simp only[zl]
   rw[zar (by simp;omega)]
   rfl
 ·rw[if_neg ha] at h2 |-
  cases o with
  |inl=>rfl
  |inr q=>cases h2
def zgr(s:List UInt8):List UInt8:=match zfz s with|some q=>q|none=>zoA s
theorem zeV{s q:List UInt8}(h:zfz s=some q):q.length<=2*s.length+2:=by
 unfold zfz at h
 split at h
 ·cases h;have:=zgB s;simp;omega
 ·cases h
theorem zhr{s:List UInt8}(hs:s.length<=20000):wL 200000 s=some (zgr s,()):=by
 unfold wL zgr
 rw[zmA hs,Option.bind_some]
 cases hq:zfz s with
 |none=>simp only[cond_false,zkn s (by omega),Option.bind_some]
 |some q=>
  have:=zeV hq
  have b1:Nat.blt q.length zr=true:=zaq (by omega)
  simp only[cond_true,b1]
theorem zkc{s:List UInt8}(hs:s.length<=20000):xr 200000 s=some (zgr s,()):=by
 unfold xr zgr
 rw[zov hs,Option.bind_some]
 cases hq:zfz s with
 |none=>simp only[cond_false,zhT s (by omega),Option.bind_some]
 |some q=>
  have:=zeV hq
  have b1:Nat.blt q.length zr=true:=zaq (by omega)
  simp only[cond_true,b1]
theorem zgQ(b:List UInt8):(zoA b).length<=b.length+14:=by
 have:=zeK b.length
 unfold zoA;simp;omega
theorem zlZ(s:List UInt8):(zgr s).length<=2*s.length+14:=by
 unfold zgr
 cases hq:zfz s with
 |none=>have:=zgQ s;simp only;omega
 |some q=>have:=zeV hq;simp only;omega
def zgV(s:List UInt8):List UInt8:=if s≠[]/\s.all zbb=true then s else zgr s
theorem zkp(N:Nat){s:List UInt8}(hs:s.length<=20000):∀ (m i:Nat),i<=s.length->s.length<m+i->zI N m s ((s.length:Nat):Int) (i:Int)=some (if(s.drop i).all zbb=true then .inr () else .inl ())
 |0,i,hi,h=>by omega
 |m+1,i,hi,h=>by
  unfold zI wi
  by_cases hl:i<s.length
  ·have hw:IntKind.wrap .i64 ((i:Int)+1)=((i+1:Nat):Int):=by rw[wri (by omega) (by omega)];omega
   have hn:nth .u8 s (Int.toNat (i:Int))=s[i]:=by rw[Int.toNat_natCast];exact xi (u:=.u8) hl
   simp only[zk5 hl,cond_true,js hl,hn,hw,zu3,Option.bind_some]
   rw[drop_one hl,List.all_cons]
   cases ht:zbb s[i] with
   |false=>simp
   |true=>simp only[Bool.not_true,cond_false,Bool.true_and];exact zkp N hs m (i+1) (by omega) (by omega)
  ·have hd:s.drop i=[]:=List.drop_of_length_le (by omega)
   simp only[zk4 hl,cond_false]
   rw[hd];rfl
theorem zmJ{s:List UInt8}(hs:s.length<=20000):qL 200000 s=some (zgV s,()):=by
 unfold qL zgV
 have b1:Nat.blt s.length zr=true:=zaq (by omega)
 by_cases h0:s=[]
 ·have:(s != ([]:List UInt8))=false:=by simp [h0]
  rw[this,cond_false,b1,cond_true,zhr hs,if_neg (by simp [h0])];rfl
 ·have:(s != ([]:List UInt8))=true:=by simp [h0]
  have hL:=zkp 200000 hs 200000 0 (Nat.zero_le _) (by omega)
  rw[show((0:Nat):Int)=0 from rfl,List.drop_zero] at hL
  rw[this,cond_true,hL,Option.bind_some]
  by_cases ha:s.all zbb=true
  ·rw[if_pos ha,if_pos ⟨h0,ha⟩]
  ·rw[if_neg ha,if_neg (fun h=>ha h.2)]
   simp only[zl]
   rw[b1,cond_true,zhr hs];rfl
theorem zhM(N:Nat){s:List UInt8}(hs:s.length<=20000):∀ (m i:Nat),i<=s.length->s.length<m+i->qc N m s (i:Int)=some (if(s.drop i).all zbb=true then .inr s else .inl ())
 |0,i,hi,h=>by omega
 |m+1,i,hi,h=>by
  unfold qc kJ
  by_cases hl:i<s.length
  ·have hw:IntKind.wrap .i64 ((i:Int)+1)=((i+1:Nat):Int):=by rw[wri (by omega) (by omega)];omega
   have hn:nth .u8 s (Int.toNat (i:Int))=s[i]:=by rw[Int.toNat_natCast];exact xi (u:=.u8) hl
   simp only[zk5 hl,cond_true,js hl,hn,hw,ztg,Option.bind_some]
   rw[drop_one hl,List.all_cons]
   cases ht:zbb s[i] with
   |false=>simp
   |true=>simp only[Bool.not_true,cond_false,Bool.true_and];exact zhM N hs m (i+1) (by omega) (by omega)
  ·have hd:s.drop i=[]:=List.drop_of_length_le (by omega)
   simp only[zk4 hl,cond_false]
   rw[hd];rfl
theorem zoC{s:List UInt8}(hs:s.length<=20000):je 200000 s=some (zgV s,()):=by
 unfold je xK zgV
 have b1:Nat.blt s.length zr=true:=zaq (by omega)
 have hL:=zhM 200000 hs 200000 0 (Nat.zero_le _) (by omega)
 rw[show((0:Nat):Int)=0 from rfl,List.drop_zero] at hL
 rw[hL,Option.bind_some]
 by_cases ha:s.all zbb=true
 ·rw[if_pos ha]
  simp only[zl,Option.bind_some]
  by_cases h0:s=[]
  ·subst h0;rw[if_neg (by simp)]
   have hb:zgr []=zgr []:=rfl
   simp only[bne_self_eq_false,cond_false]
   rw[b1,cond_true,zkc (by simp)];rfl
  ·have:(s != ([]:List UInt8))=true:=by simp [h0]
   rw[this,cond_true,if_pos ⟨h0,ha⟩]
 ·rw[if_neg ha,if_neg (fun h=>ha h.2)]
  simp only[zl,Option.bind_some,cond_false]
  rw[b1,cond_true,zkc hs];rfl
theorem zhY(s:List UInt8):(zgV s).length<=2*s.length+14:=by
 unfold zgV;split
 ·omega
 ·exact zlZ s
def zgF(n:Int):List UInt8:=if n=0 then[42] else dec n.toNat
def zhm(r:Int×Int):List UInt8:=if r.1=r.2 then zgF r.1 else zgF r.1++([58]++zgF r.2)
def zp4(st:List (Int×Int)):List UInt8:=Go.Lib.join (st.map zhm) [44]
def ztc(n:Int):Prop:=0<=n/\n<4294967296
def zqj(st:List (Int×Int)):Prop:=∀ r ∈ st,ztc r.1/\ztc r.2
theorem wQ(n:Int):(zgF n).length<=10:=by
 unfold zgF;split
 ·simp
 ·exact zeK _
theorem zkx(r:Int×Int):(zhm r).length<=21:=by
 unfold zhm
 have:=wQ r.1;have:=wQ r.2
 split
 ·omega
 ·simp;omega
theorem zhD{n:Int}(h:ztc n):jY 200000 n=some (zgF n,()):=by
 unfold jY zgF
 by_cases h0:n=0
 ·subst h0;rfl
 ·obtain⟨k,rfl⟩:∃ k:Nat,n=(k:Int):=⟨n.toNat,by have:=h.1;omega⟩
  have:(((k:Nat):Int)==0)=false:=by simpa using h0
  rw[this,cond_false,zgy 200000 k (by omega) (by have:=h.2;omega),if_neg h0];rfl
theorem zem{n:Int}(h:ztc n):jd 200000 n=some (zgF n,()):=by
 unfold jd zgF
 by_cases h0:n=0
 ·subst h0;rfl
 ·obtain⟨k,rfl⟩:∃ k:Nat,n=(k:Int):=⟨n.toNat,by have:=h.1;omega⟩
  have:(((k:Nat):Int)==0)=false:=by simpa using h0
  rw[this,cond_false,zi2 200000 k (by omega) (by have:=h.2;omega),if_neg h0];rfl
theorem zjO{st:List (Int×Int)}(hs:st.length<=20000)(hu:zqj st):∀ (m i:Nat) (out:List (List UInt8)),i<=st.length->st.length<m+i->out.length<=i ->
  zT 200000 m st ((st.length:Nat):Int) (i:Int) out=some (out++(st.drop i).map zhm)
 |0,i,out,hi,h,ho=>by omega
 |m+1,i,out,hi,h,ho=>by
  unfold zT kd
  by_cases hl:i<st.length
  ·have hw:IntKind.wrap .i64 ((i:Int)+1)=((i+1:Nat):Int):=by rw[wri (by omega) (by omega)];omega
   have hn:nth (.pair (.int .u32) (.int .u32)) st (Int.toNat (i:Int))=st[i]:=by rw[Int.toNat_natCast];exact xi (u:=.pair (.int .u32) (.int .u32)) hl
   obtain⟨u1,u2⟩:=hu st[i] (List.getElem_mem hl)
   have b1:Nat.blt (out.length+1) zr=true:=zaq (by omega)
   have f1:=wQ st[i].1;have f2:=wQ st[i].2
   simp only[zk5 hl,cond_true,js hl,hn,hw,zhD u1,zhD u2,Option.bind_some,b1,beq_self_eq_true,Bool.true_and,Bool.and_true]
   rw[drop_one hl,List.map_cons]
   by_cases e:st[i].1=st[i].2
   ·have:(st[i].2==st[i].1)=true:=by simp [e]
    rw[this,Bool.not_true,cond_false,zjO hs hu m (i+1) _ (by omega) (by omega) (by simp;omega)]
    simp [zhm,e]
   ·have:(st[i].2==st[i].1)=false:=by simp;exact fun h=>e h.symm
    rw[this,Bool.not_false,cond_true,zar (by simp;omega),zar (by simp;omega)]
    simp only[cond_true]
    rw[zjO hs hu m (i+1) _ (by omega) (by omega) (by simp;omega)]
    simp [zhm,e]
  ·have hd:st.drop i=[]:=List.drop_of_length_le (by omega)
   simp only[zk4 hl,cond_false]
   rw[hd];simp
theorem zrW(st:List (Int×Int)):(Go.Lib.joinTail [44] (st.map zhm)).length<=22*st.length:=by
 induction st with
 |nil=>simp [Go.Lib.joinTail]
 |cons r st ih=>
  have:=zkx r
  simp only[Go.Lib.joinTail,List.map_cons,List.flatten_cons,List.length_append,List.length_cons] at ih |-
  simp only[List.length_cons,List.length_nil];omega
theorem zg9(st:List (Int×Int)):(zp4 st).length<=22*st.length:=by
 unfold zp4
 cases st with
 |nil=>simp [Go.Lib.join_nil]
 |cons r st=>
  have h1:=zkx r;have h2:=zrW st
  rw[List.map_cons,Go.Lib.join_cons,List.length_append,List.length_cons];omega
theorem zmB{st:List (Int×Int)}(hs:st.length<=2000)(hu:zqj st):qS 200000 st=some (zp4 st,()):=by
 unfold qS
 have hL:=zjO (by omega) hu 200000 0 [] (Nat.zero_le _) (by omega) (by simp)
 rw[show((0:Nat):Int)=0 from rfl,List.drop_zero,List.nil_append] at hL
 rw[hL,Option.bind_some]
 have h1:=zg9 st
 have b1:Nat.ble (Go.Lib.join (st.map zhm) [44]).length xM=true:=by unfold zp4 at h1;simp [xM];omega
 have b2:Nat.ble (st.map zhm).length 140737488355328=true:=by simp;omega
 rw[b1,b2];rfl
theorem zes{st:List (Int×Int)}(hs:st.length<=2000)(hu:zqj st):∀ (m i:Nat) (x:List UInt8),i<=st.length->st.length<m+i->0<i->x.length<=50*i ->
  zw 200000 m st x (i:Int)=some (x++Go.Lib.joinTail [44] ((st.drop i).map zhm))
 |0,i,x,hi,h,h0,ho=>by omega
 |m+1,i,x,hi,h,h0,ho=>by
  unfold zw qG
  by_cases hl:i<st.length
  ·have hw:IntKind.wrap .i64 ((i:Int)+1)=((i+1:Nat):Int):=by rw[wri (by omega) (by omega)];omega
   have hn:nth (.pair (.int .u32) (.int .u32)) st (Int.toNat (i:Int))=st[i]:=by rw[Int.toNat_natCast];exact xi (u:=.pair (.int .u32) (.int .u32)) hl
   obtain⟨u1,u2⟩:=hu st[i] (List.getElem_mem hl)
   have f1:=wQ st[i].1;have f2:=wQ st[i].2
   have hp:decide ((0:Int)<(i:Int))=true:=decide_eq_true (by omega)
   simp only[zk5 hl,cond_true,js hl,hn,hw,hp,zem u1,zem u2,Option.bind_some]
   rw[drop_one hl,List.map_cons]
   have hj:∀ (y:List UInt8) r,Go.Lib.joinTail [44] (y::r)=[44]++y++Go.Lib.joinTail [44] r:=fun y r=>by simp [Go.Lib.joinTail]
   rw[hj]
   by_cases e:st[i].1=st[i].2
   ·have:(st[i].1 != st[i].2)=false:=by simp [e]
    simp (disch:=(simp only[List.length_append,List.length_cons,List.length_nil];omega)) only[zar,cond_true,this,cond_false]
    rw[zes hs hu m (i+1) _ (by omega) (by omega) (by omega) (by simp;omega)]
    simp [zhm,e]
   ·have:(st[i].1 != st[i].2)=true:=by simp [e]
    simp (disch:=(simp only[List.length_append,List.length_cons,List.length_nil];omega)) only[zar,cond_true,this]
    rw[zes hs hu m (i+1) _ (by omega) (by omega) (by omega) (by simp;omega)]
    simp [zhm,e]
  ·have hd:st.drop i=[]:=List.drop_of_length_le (by omega)
   simp only[zk4 hl,cond_false]
   rw[hd];simp [Go.Lib.joinTail]
theorem zow{st:List (Int×Int)}(hs:st.length<=2000)(hu:zqj st):jU 200000 st=some (zp4 st,()):=by
 unfold jU zp4
 cases hst:st with
 |nil=>rfl
 |cons r st'=>
  rw[<- hst]
  have hl:0<st.length:=by rw[hst];simp
  have hg:st[0]=r:=by simp [hst]
  obtain⟨u1,u2⟩:=hu st[0] (List.getElem_mem hl)
  have f1:=wQ st[0].1;have f2:=wQ st[0].2
  have hn:nth (.pair (.int .u32) (.int .u32)) st (Int.toNat (0:Int))=st[0]:=xi (u:=.pair (.int .u32) (.int .u32)) hl
  have key:zw 200000 200000 st [] 0=some (Go.Lib.join (st.map zhm) [44]):=by
   rw[show zw 200000 200000 st [] 0=qG 200000 st [] 0 (zw 200000 199999) (fun v0=>some v0) from rfl]
   unfold qG
   have hw:IntKind.wrap .i64 ((0:Int)+1)=((0+1:Nat):Int):=by decide
   have hp:decide ((0:Int)<0)=false:=by decide
   have hlt:decide ((0:Int)<((st.length:Nat):Int))=true:=decide_eq_true (by omega)
   have hin:inb (0:Int) st.length=true:=js (i:=0) hl
   simp only[hlt,cond_true,hin,hn,hw,hp,zem u1,zem u2,Option.bind_some,cond_false,List.nil_append]
   have hjoin:Go.Lib.join (st.map zhm) [44]=zhm r++Go.Lib.joinTail [44] ((st.drop (0+1)).map zhm):=by rw[hst,List.map_cons,Go.Lib.join_cons];rfl
   rw[hjoin,<- hg]
   by_cases e:st[0].1=st[0].2
   ·have:(st[0].1 != st[0].2)=false:=by simp [e]
    simp (disch:=(simp only[List.length_append,List.length_cons,List.length_nil];omega)) only[zar,cond_true,this,cond_false]
    rw[zes hs hu 199999 (0+1) _ (by omega) (by omega) (by omega) (by omega)]
    simp [zhm,e]
   ·have:(st[0].1 != st[0].2)=true:=by simp [e]
    simp (disch:=(simp only[List.length_append,List.length_cons,List.length_nil];omega)) only[zar,cond_true,this]
    rw[zes hs hu 199999 (0+1) _ (by omega) (by omega) (by omega) (by simp;omega)]
    simp [zhm,e]
  rw[key];rfl
def zr3:Option (List UInt8×Unit)->Option (List UInt8×Unit)->Bool
 |some (a,_),some (b,_)=>a==b&&Nat.ble a.length 70
 |_,_=>false
theorem zjy{a b:Option (List UInt8×Unit)}(h:zr3 a b=true):∃ s:List UInt8,a=some (s,())/\b=some (s,())/\s.length<=70:=by
 unfold zr3 at h
 split at h
 ·simp only[Bool.and_eq_true,beq_iff_eq] at h
  obtain⟨rfl,h2⟩:=h
  exact⟨_,rfl,rfl,Nat.le_of_ble_eq_true h2⟩
 ·cases h
theorem zmz:((List.range 32).all fun n=>zr3 (qQ 200000 ((n:Nat):Int)) (jX 200000 ((n:Nat):Int)))=true:=by kernel_rfl
theorem zkY{n:Int}(h1:0<=n)(h2:n<=31):∃ s:List UInt8,qQ 200000 n=some (s,())/\jX 200000 n=some (s,())/\s.length<=70:=by
 obtain⟨k,rfl⟩:∃ k:Nat,n=(k:Int):=⟨n.toNat,by omega⟩
 have:=zmz
 rw[List.all_eq_true] at this
 exact zjy (this k (List.mem_range.2 (by omega)))
theorem zmk:((List.range 32).all fun n=>zr3 (jc 200000 (UInt8.ofNat n)) (jO 200000 ((n:Nat):Int)))=true:=by kernel_rfl
theorem zkP{f:UInt8}(h:f<=31):∃ s:List UInt8,jc 200000 f=some (s,())/\jO 200000 ((f.toNat:Nat):Int)=some (s,())/\s.length<=70:=by
 have:=zmk
 rw[List.all_eq_true] at this
 have:=this f.toNat (List.mem_range.2 (by have:f.toNat<=31:=h;omega))
 rw[UInt8.ofNat_toNat] at this
 exact zjy this
theorem zpw:((List.range 9).all fun n=>zr3 (zN 200000 ((n:Nat):Int)) (wP 200000 ((n:Nat):Int)))=true:=by kernel_rfl
theorem zn7{n:Int}(h1:0<=n)(h2:n<=8):∃ s:List UInt8,zN 200000 n=some (s,())/\wP 200000 n=some (s,())/\s.length<=70:=by
 obtain⟨k,rfl⟩:∃ k:Nat,n=(k:Int):=⟨n.toNat,by omega⟩
 have:=zpw
 rw[List.all_eq_true] at this
 exact zjy (this k (List.mem_range.2 (by omega)))
def okL(o:Option (List UInt8×Unit)):List UInt8:=match o with
 |some (s,_)=>s
 |none=>[]
def zlD(k:Int):List UInt8:=okL (zN 200000 k)
def zkX(n:Int):List UInt8:=okL (qQ 200000 n)
def zi6(f:UInt8):List UInt8:=okL (jc 200000 f)
def zmX(mo:Int):List UInt8:=nth .str ([([70,76,65,71,83]:List UInt8),([43,70,76,65,71,83]:List UInt8),([45,70,76,65,71,83]:List UInt8)]:List (List UInt8)) (Int.toNat mo)
def zqU(mo:Int)(si:Bool):List UInt8:=if si=true then zmX mo++[46,83,73,76,69,78,84] else zmX mo
theorem zn9{k:Int}(h1:1<=k)(h2:k<=8):zN 200000 k=some (zlD k,())/\wP 200000 k=some (zlD k,())/\(zlD k).length<=70:=by
 obtain⟨s,a,b,c⟩:=zn7 (n:=k) (by omega) h2
 have:zlD k=s:=by unfold zlD okL;rw[a]
 rw[this];exact⟨a,b,c⟩
theorem zmy{k:Int}(h1:0<=k)(h2:k<=31):qQ 200000 k=some (zkX k,())/\jX 200000 k=some (zkX k,())/\(zkX k).length<=70:=by
 obtain⟨s,a,b,c⟩:=zkY (n:=k) h1 h2
 have:zkX k=s:=by unfold zkX okL;rw[a]
 rw[this];exact⟨a,b,c⟩
theorem zmj{f:UInt8}(h:f<=31):jc 200000 f=some (zi6 f,())/\jO 200000 ((f.toNat:Nat):Int)=some (zi6 f,())/\(zi6 f).length<=70:=by
 obtain⟨s,a,b,c⟩:=zkP h
 have:zi6 f=s:=by unfold zi6 okL;rw[a]
 rw[this];exact⟨a,b,c⟩
theorem zmY{mo:Int}{si:Bool}(h1:0<=mo)(h2:mo<=2):zaW 200000 mo si=some (zqU mo si,())/\(zmX mo).length<=6/\(zqU mo si).length<=13/\inb mo 3=true:=by
 have:mo=0\/mo=1\/mo=2:=by omega
 rcases this with rfl|rfl|rfl<;>cases si<;>exact⟨rfl,by decide,by decide,rfl⟩
def zon(k:Int)(m:List UInt8)(st:List (Int×Int))(it mo:Int)(si:Bool)(fl:UInt8)(da:List UInt8):List (List UInt8):=
 if k=5 then[zgV m] else if k=6 then(if fl=0 then[zgV m,zoA da] else[zgV m,zi6 fl,zoA da])
 else if k=7 then[zp4 st,zkX it] else if k=8 then[zp4 st,zqU mo si,zi6 fl] else[]
def zfk(t:List UInt8)(k:Int)(m:List UInt8)(st:List (Int×Int))(it mo:Int)(si:Bool)(fl:UInt8)(da:List UInt8):List UInt8:=Go.Lib.join (t::zlD k::zon k m st it mo si fl da) [32]
def zjA(t:List UInt8):List UInt8×Bool:=
 if(zfh (t++[13,10])).2=0/\(zfh (t++[13,10])).1.getLast?=some (1,t) then(t++[13,10],true) else([],false)
def zsT(t:List UInt8):Option (List UInt8×Bool×Unit):=
 (cond ((Nat.ble (List.length t) xM)&&true) (cond (decide (List.length t+List.length ([13,10]:List UInt8)<4611686018427387904)) (cond (Nat.blt (List.length (t++([13,10]:List UInt8))) zr) (Option.bind (zD 200000 (t++([13,10]:List UInt8))) fun y4=>(cond (decide ((0:Int)<y4.2.1)) (some (([]:List UInt8),false,())) (cond ((((List.length y4.1):Nat):Int)==(0:Int)) (some (([]:List UInt8),false,())) (cond (inb (IntKind.wrap .i64 ((((List.length y4.1):Nat):Int)-(1:Int))) (List.length y4.1)) (cond ((nth (.pair (.int .i64) (.sl .u8)) y4.1 (Int.toNat (IntKind.wrap .i64 ((((List.length y4.1):Nat):Int)-(1:Int))))).1 != (1:Int)) (some (([]:List UInt8),false,())) (cond ((nth (.pair (.int .i64) (.sl .u8)) y4.1 (Int.toNat (IntKind.wrap .i64 ((((List.length y4.1):Nat):Int)-(1:Int))))).2 != t) (some (([]:List UInt8),false,())) (some ((t++([13,10]:List UInt8)),true,())))) none)))) none) none) none)
theorem zpN(t:List UInt8)(fs:List Frm)(left:Nat)(hl:fs.length<=20000)(x:List UInt8)(hx:x=t)(o:List UInt8):
  (cond (decide ((0:Int)<(left:Int))) (some (([]:List UInt8),false,())) (cond ((((List.length fs):Nat):Int)==(0:Int)) (some (([]:List UInt8),false,())) (cond (inb (IntKind.wrap .i64 ((((List.length fs):Nat):Int)-(1:Int))) (List.length fs)) (cond ((nth (.pair (.int .i64) (.sl .u8)) fs (Int.toNat (IntKind.wrap .i64 ((((List.length fs):Nat):Int)-(1:Int))))).1 != (1:Int)) (some (([]:List UInt8),false,())) (cond ((nth (.pair (.int .i64) (.sl .u8)) fs (Int.toNat (IntKind.wrap .i64 ((((List.length fs):Nat):Int)-(1:Int))))).2 != x) (some (([]:List UInt8),false,())) (some (o,true,())))) none)))=some (if left=0/\fs.getLast?=some (1,t) then(o,true,()) else([],false,())):=by
 subst hx
 by_cases h0:left=0
 ·subst h0
  simp only[show decide ((0:Int)<((0:Nat):Int))=false from rfl,cond_false,true_and]
  by_cases hn:fs.length=0
  ·have:fs=[]:=List.length_eq_zero_iff.1 hn
   subst this
   rfl
  ·have hw:IntKind.wrap .i64 ((fs.length:Int)-1)=((fs.length-1:Nat):Int):=by rw[wri (by omega) (by omega)];omega
   have he:(((fs.length:Nat):Int)==(0:Int))=false:=beq_eq_false_iff_ne.2 (by omega)
   have hlt:fs.length-1<fs.length:=by omega
   have hnth:nth (.pair (.int .i64) (.sl .u8)) fs (Int.toNat ((fs.length-1:Nat):Int))=fs[fs.length-1]:=by rw[Int.toNat_natCast];exact xi (u:=.pair (.int .i64) (.sl .u8)) hlt
   have hg:fs.getLast?=some fs[fs.length-1]:=by rw[List.getLast?_eq_getElem?];exact List.getElem?_eq_getElem hlt
   simp only[hw,he,cond_false,js hlt,cond_true,hnth,hg]
   cases hf:fs[fs.length-1] with
   |mk a b=>
    by_cases ha:a=1
    ·subst ha
     by_cases hb:b=x
     ·subst hb;simp
     ·have:(b != x)=true:=by simp [hb]
      simp [this,hb]
    ·have:(a != 1)=true:=by simp [ha]
     simp [this,ha]
 ·have:decide ((0:Int)<(left:Int))=true:=decide_eq_true (by omega)
  rw[this,if_neg (fun h=>h0 h.1)];rfl
theorem zps{t:List UInt8}(h:t.length<=19000):zsT t=some ((zjA t).1,(zjA t).2,()):=by
 unfold zsT
 have hb:(t++[13,10]).length<=20000:=by simp;omega
 have c1:Nat.ble t.length xM=true:=by simp [xM];omega
 have c2:decide (List.length t+List.length ([13,10]:List UInt8)<4611686018427387904)=true:=decide_eq_true (by simp;omega)
 have c3:Nat.blt (t++[13,10]).length zr=true:=zaq (by omega)
 rw[c1,c2,c3,zgg 200000 (by omega) (by omega)]
 simp only[Bool.and_true,cond_true,Option.bind_some]
 have:=zdv (t++[13,10])
 rw[zpN t _ _ (by omega) t rfl (t++[13,10])]
 unfold zjA
 split<;>rfl
theorem za3:Go.Lib.joinTail [32] ([]:List (List UInt8))=[]:=rfl
theorem kX(y:List UInt8)(r:List (List UInt8)):Go.Lib.joinTail [32] (y::r)=[32]++y++Go.Lib.joinTail [32] r:=by simp [Go.Lib.joinTail]
def Sml(t m:List UInt8)(st:List (Int×Int))(da:List UInt8):Prop:=t.length<=100/\m.length<=300/\st.length<=60/\da.length<=500
theorem zfl{t m:List UInt8}{k:Int}{st:List (Int×Int)}{it mo:Int}{si:Bool}{fl:UInt8}{da:List UInt8}(hs:Sml t m st da)(hv:VP t k m st it mo si fl da):(zfk t k m st it mo si fl da).length<=3000:=by
 obtain⟨s1,s2,s3,s4⟩:=hs
 obtain⟨v1,v2,v3,v4,v5,v6,v7⟩:=hv
 obtain⟨_,_,w1⟩:=zn9 v2 v3
 have w2:=zhY m
 have w3:=zgQ da
 have w4:=zg9 st
 obtain⟨_,_,w5⟩:=zmj v6
 unfold zfk zon
 rcases v7 with⟨rfl,_⟩|⟨rfl,_⟩|⟨rfl,_,_,q1,q2,_⟩|⟨rfl,_,_,_,q1,q2,_⟩|⟨q,_⟩
 ·simp only[if_true,Go.Lib.join_cons,kX,za3,List.length_append,List.length_cons,List.length_nil];omega
 ·simp only[if_neg (show ¬ ((6:Int)=5) by decide),if_true]
  split<;>simp only[Go.Lib.join_cons,kX,za3,List.length_append,List.length_cons,List.length_nil]<;>omega
 ·obtain⟨_,_,w6⟩:=zmy (k:=it) (by omega) q2
  simp only[if_neg (show ¬ ((7:Int)=5) by decide),if_neg (show ¬ ((7:Int)=6) by decide),if_true,Go.Lib.join_cons,kX,za3,List.length_append,List.length_cons,List.length_nil];omega
 ·obtain⟨_,_,w6,_⟩:=zmY (si:=si) q1 q2
  simp only[if_neg (show ¬ ((8:Int)=5) by decide),if_neg (show ¬ ((8:Int)=6) by decide),if_neg (show ¬ ((8:Int)=7) by decide),if_true,Go.Lib.join_cons,kX,za3,List.length_append,List.length_cons,List.length_nil];omega
 ·rw[if_neg (by omega),if_neg (by omega),if_neg (by omega),if_neg (by omega)]
  simp only[Go.Lib.join_cons,kX,za3,List.length_append,List.length_cons,List.length_nil];omega
theorem zlj{t m:List UInt8}{k:Int}{st:List (Int×Int)}{it mo:Int}{si:Bool}{fl:UInt8}{da:List UInt8}(hs:Sml t m st da)(hu:zqj st)(hv:VP t k m st it mo si fl da):
  qy 200000 (t,(k,(m,(st,(it,(mo,(si,(fl,da))))))))=some ((zjA (zfk t k m st it mo si fl da)).1,(zjA (zfk t k m st it mo si fl da)).2,()):=by
 have hlen:=zfl hs hv
 rw[<- zps (by omega)]
 obtain⟨s1,s2,s3,s4⟩:=hs
 obtain⟨b,hb,hbv⟩:=zgo t k m st it mo si fl da (by omega)
 have:=hbv.2 hv
 subst this
 obtain⟨v1,v2,v3,v4,v5,v6,v7⟩:=hv
 obtain⟨w1,_,_⟩:=zn9 v2 v3
 obtain⟨w2,_,_⟩:=zmj v6
 have w3:=zmJ (s:=m) (by omega)
 have w4:=zkn da (by omega)
 have w5:=zmB (st:=st) (by omega) hu
 unfold qy zfk zon
 simp only[hb,Option.bind_some,Bool.not_true,cond_false,w1]
 rcases v7 with⟨rfl,_⟩|⟨rfl,_⟩|⟨rfl,_,_,q1,q2,_⟩|⟨rfl,_,_,_,q1,q2,_⟩|⟨q,_⟩
 ·simp only[if_true,beq_self_eq_true,cond_true,w3,Option.bind_some];rfl
 ·simp only[if_neg (show ¬ ((6:Int)=5) by decide),if_true,show((6:Int)==5)=false from rfl,cond_false,beq_self_eq_true,cond_true,w3,Option.bind_some]
  by_cases hf:fl=0
  ·have:(fl != 0)=false:=by simp [hf]
   simp only[this,cond_false,if_pos hf,w4,Option.bind_some];rfl
  ·have:(fl != 0)=true:=by simp [hf]
   simp only[this,cond_true,if_neg hf,w4,w2,Option.bind_some];rfl
 ·obtain⟨w6,_,_⟩:=zmy (k:=it) (by omega) q2
  simp only[if_neg (show ¬ ((7:Int)=5) by decide),if_neg (show ¬ ((7:Int)=6) by decide),if_true,show((7:Int)==5)=false from rfl,show((7:Int)==6)=false from rfl,cond_false,beq_self_eq_true,cond_true,w5,w6,Option.bind_some];rfl
 ·obtain⟨_,w6,w7,w8⟩:=zmY (si:=si) q1 q2
  have c:decide (List.length (zmX mo)+List.length ([46,83,73,76,69,78,84]:List UInt8)<4611686018427387904)=true:=decide_eq_true (by simp;omega)
  simp only[if_neg (show ¬ ((8:Int)=5) by decide),if_neg (show ¬ ((8:Int)=6) by decide),if_neg (show ¬ ((8:Int)=7) by decide),if_true,show((8:Int)==5)=false from rfl,show((8:Int)==6)=false from rfl,show((8:Int)==7)=false from rfl,cond_false,beq_self_eq_true,cond_true,w8]
  cases si with
  |false=>simp only[cond_false,w5,w2,Option.bind_some];rfl
  |true=>
   simp only[cond_true]
   show cond (decide (List.length (zmX mo)+List.length ([46,83,73,76,69,78,84]:List UInt8)<4611686018427387904)) _ _=_
   simp only[c,cond_true,w5,w2,Option.bind_some];rfl
 ·have n5:(k==5)=false:=beq_eq_false_iff_ne.2 (by omega)
  have n6:(k==6)=false:=beq_eq_false_iff_ne.2 (by omega)
  have n7:(k==7)=false:=beq_eq_false_iff_ne.2 (by omega)
  have n8:(k==8)=false:=beq_eq_false_iff_ne.2 (by omega)
  rw[if_neg (by omega),if_neg (by omega),if_neg (by omega),if_neg (by omega)]
  simp only[n5,n6,n7,n8,cond_false];rfl
theorem zpt{t m:List UInt8}{k:Int}{st:List (Int×Int)}{it mo:Int}{si:Bool}{fl:UInt8}{da:List UInt8}(hs:Sml t m st da)(hu:zqj st)(hv:VP t k m st it mo si fl da):
  xy 200000 (t,(k,(m,(st,(it,(mo,(si,(fl,da))))))))=some (zfk t k m st it mo si fl da,()):=by
 obtain⟨s1,s2,s3,s4⟩:=hs
 obtain⟨v1,v2,v3,v4,v5,v6,v7⟩:=hv
 obtain⟨_,w1,l1⟩:=zn9 v2 v3
 obtain⟨_,w2,l2⟩:=zmj v6
 have w3:=zoC (s:=m) (by omega)
 have w4:=zhT da (by omega)
 have w5:=zow (st:=st) (by omega) hu
 have l3:=zhY m
 have l4:=zgQ da
 have l5:=zg9 st
 have wf:IntKind.wrap .i64 ((UInt8.toNat fl:Nat):Int)=((UInt8.toNat fl:Nat):Int):=by have:=UInt8.toNat_lt fl;rw[wri (by omega) (by omega)]
 unfold xy zfk zon
 simp (disch:=(simp only[List.length_append,List.length_cons,List.length_nil];omega)) only[zar,cond_true,w1,Option.bind_some,wf]
 rcases v7 with⟨rfl,_⟩|⟨rfl,_⟩|⟨rfl,_,_,q1,q2,_⟩|⟨rfl,_,_,_,q1,q2,_⟩|⟨q,_⟩
 ·simp (disch:=(simp only[List.length_append,List.length_cons,List.length_nil];omega)) only[zar,ziU,cond_true,if_true,beq_self_eq_true,w3,Option.bind_some]
  simp only[Go.Lib.join_cons,kX,za3,List.append_assoc,List.append_nil]
 ·simp (disch:=(simp only[List.length_append,List.length_cons,List.length_nil];omega)) only[zar,if_neg (show ¬ ((6:Int)=5) by decide),if_true,show((6:Int)==5)=false from rfl,cond_false,beq_self_eq_true,cond_true,w3,Option.bind_some]
  by_cases hf:fl=0
  ·have:decide ((0:UInt8)<fl)=false:=by subst hf;rfl
   simp (disch:=(simp only[List.length_append,List.length_cons,List.length_nil];omega)) only[this,zar,ziU,cond_true,cond_false,if_pos hf,w4,Option.bind_some]
   simp only[Go.Lib.join_cons,kX,za3,List.append_assoc,List.append_nil]
  ·have:decide ((0:UInt8)<fl)=true:=decide_eq_true (UInt8.pos_iff_ne_zero.2 hf)
   simp (disch:=(simp only[List.length_append,List.length_cons,List.length_nil];omega)) only[this,zar,ziU,cond_true,if_neg hf,w4,w2,Option.bind_some]
   simp only[Go.Lib.join_cons,kX,za3,List.append_assoc,List.append_nil]
 ·obtain⟨_,w6,l6⟩:=zmy (k:=it) (by omega) q2
  simp (disch:=(simp only[List.length_append,List.length_cons,List.length_nil];omega)) only[zar,ziU,if_neg (show ¬ ((7:Int)=5) by decide),if_neg (show ¬ ((7:Int)=6) by decide),if_true,show((7:Int)==5)=false from rfl,show((7:Int)==6)=false from rfl,cond_false,beq_self_eq_true,cond_true,w5,w6,Option.bind_some]
  simp only[Go.Lib.join_cons,kX,za3,List.append_assoc,List.append_nil]
 ·obtain⟨w6,_,l6,_⟩:=zmY (si:=si) q1 q2
  simp (disch:=(simp only[List.length_append,List.length_cons,List.length_nil];omega)) only[zar,ziU,if_neg (show ¬ ((8:Int)=5) by decide),if_neg (show ¬ ((8:Int)=6) by decide),if_neg (show ¬ ((8:Int)=7) by decide),if_true,show((8:Int)==5)=false from rfl,show((8:Int)==6)=false from rfl,show((8:Int)==7)=false from rfl,cond_false,beq_self_eq_true,cond_true,w5,w6,w2,Option.bind_some]
  simp only[Go.Lib.join_cons,kX,za3,List.append_assoc,List.append_nil]
 ·have n5:(k==5)=false:=beq_eq_false_iff_ne.2 (by omega)
  have n6:(k==6)=false:=beq_eq_false_iff_ne.2 (by omega)
  have n7:(k==7)=false:=beq_eq_false_iff_ne.2 (by omega)
  have n8:(k==8)=false:=beq_eq_false_iff_ne.2 (by omega)
  rw[if_neg (by omega),if_neg (by omega),if_neg (by omega),if_neg (by omega)]
  simp (disch:=(simp only[List.length_append,List.length_cons,List.length_nil];omega)) only[n5,n6,n7,n8,cond_false,ziU,cond_true]
  simp only[Go.Lib.join_cons,kX,za3,List.append_assoc,List.append_nil]
theorem zne{t m:List UInt8}{k:Int}{st:List (Int×Int)}{it mo:Int}{si:Bool}{fl:UInt8}{da:List UInt8}(hs:Sml t m st da)(hu:zqj st)(hv:VP t k m st it mo si fl da):
  qH 200000 (t,(k,(m,(st,(it,(mo,(si,(fl,da))))))))=some ((zjA (zfk t k m st it mo si fl da)).1,(zjA (zfk t k m st it mo si fl da)).2,()):=by
 have hlen:=zfl hs hv
 have htx:=zpt hs hu hv
 obtain⟨s1,s2,s3,s4⟩:=hs
 obtain⟨b,hb,hbv⟩:=ziL t k m st it mo si fl da (by omega) (by omega)
 have:=hbv.2 hv
 subst this
 unfold qH
 simp only[hb,Option.bind_some,Bool.not_true,cond_false,htx]
 generalize zfk t k m st it mo si fl da=T at hlen |-
 have hL:(T++[13,10]).length=T.length+2:=by simp
 have c3:Nat.blt (T.length+2) zr=true:=zaq (by omega)
 have hw:IntKind.wrap .i64 (((T++[13,10]).length:Int)-2)=((T.length:Nat):Int):=by rw[hL,wri (by omega) (by omega)];omega
 have hb:j9 (0:Int) ((T.length:Nat):Int) (T++[13,10]).length=true:=by rw[hL];unfold j9;simp;omega
 have hsl:slice (T++[13,10]) 0 (0+(Int.toNat ((T.length:Nat):Int)-0))=T:=by rw[Int.toNat_natCast];simp [slice]
 rw[c3,ziD 200000 (by omega) (by omega) (by omega)]
 simp only[cond_true,Option.bind_some,hw,hb,hsl,Bool.true_and]
 have:=zdv (T++[13,10])
 have fe:=zpN T (zfh (T++[13,10])).1 (zfh (T++[13,10])).2 (by omega) T rfl (T++[13,10])
 have:∀ (x y:Bool×Unit),True:=fun _ _=>trivial
 by_cases hi:inb (IntKind.wrap .i64 ((((List.length (zfh (T++[13,10])).1):Nat):Int)-(1:Int))) (List.length (zfh (T++[13,10])).1)=true
 ·rw[hi] at fe |-
  simp only[cond_true] at fe |-
  rw[fe];unfold zjA;split<;>rfl
 ·rw[Bool.not_eq_true] at hi
  rw[hi] at fe |-
  simp only[cond_false] at fe |-
  rw[fe];unfold zjA;split<;>rfl
theorem zkg(N:Nat)(a b:List UInt8)(hl:a.length=b.length)(ha:a.length<=100000):∀ (m i:Nat),i<=a.length->a.length<m+i ->
  zk N m a b ((a.length:Nat):Int) (i:Int)=some (if a.drop i=b.drop i then Sum.inr () else Sum.inl ())
 |0,i,h,h'=>by omega
 |m+1,i,h,h'=>by
  unfold zk qN
  by_cases hi:i<a.length
  ·have hj:i<b.length:=by omega
   simp only[zk5 hi,cond_true,js hi,js hj,Int.toNat_natCast,xi (u:=.u8) hi,xi (u:=.u8) hj]
   rw[wri (by omega) (by omega),show((i:Int)+1)=((i+1:Nat):Int) by omega,drop_one hi,drop_one hj]
   by_cases e:a[i]=b[i]
   ·rw[show(a[i] != b[i])=false by rw[bne_eq_false_iff_eq];exact e,cond_false,zkg N a b hl ha m (i+1) (by omega) (by omega),e]
    simp only[List.cons.injEq,true_and]
   ·rw[show(a[i] != b[i])=true by rw[bne_iff_ne];exact e,cond_true,if_neg (fun q=>e (List.cons.inj q).1)]
  ·rw[zk4 hi,List.drop_of_length_le (by omega),List.drop_of_length_le (by omega)];rfl
theorem zkh(a b:List UInt8)(ha:a.length<=100000)(hb:b.length<=100000):zU 200000 a b=some (a==b,()):=by
 unfold zU
 by_cases hl:a.length=b.length
 ·rw[show((((List.length a):Nat):Int) != (((List.length b):Nat):Int))=false by rw[bne_eq_false_iff_eq];omega]
  have:=zkg 200000 a b hl ha 200000 0 (Nat.zero_le _) (by omega)
  rw[List.drop_zero,List.drop_zero,show((0:Nat):Int)=(0:Int) from rfl] at this
  rw[this]
  by_cases e:a=b
  ·rw[if_pos e,show(a==b)=true by rw[beq_iff_eq];exact e];rfl
  ·rw[if_neg e,show(a==b)=false by rw[beq_eq_false_iff_ne];exact e];rfl
 ·rw[show((((List.length a):Nat):Int) != (((List.length b):Nat):Int))=true by rw[bne_iff_ne];omega,show(a==b)=false by rw[beq_eq_false_iff_ne];exact fun e=>hl (by rw[e])]
  rfl
theorem zvb(c:El uS2):∃ f:Bool,zao 200000 c=some (f,())/\(f=true->Sml c.1 c.2.2.1 c.2.2.2.1 c.2.2.2.2.2.2.2.2):=by
 unfold zao Sml
 by_cases h1:((c.1.length:Nat):Int)<=100
 ·by_cases h2:((c.2.2.1.length:Nat):Int)<=300
  ·by_cases h3:((c.2.2.2.1.length:Nat):Int)<=60
   ·rw[decide_eq_true h1,decide_eq_true h2,decide_eq_true h3];exact⟨_,rfl,fun h=>by have:=of_decide_eq_true h;exact⟨by omega,by omega,by omega,by omega⟩⟩
   ·rw[decide_eq_true h1,decide_eq_true h2,decide_eq_false h3];exact⟨false,rfl,fun h=>by cases h⟩
  ·rw[decide_eq_true h1,decide_eq_false h2];exact⟨false,rfl,fun h=>by cases h⟩
 ·rw[decide_eq_false h1];exact⟨false,rfl,fun h=>by cases h⟩
theorem zsX(c:El uS2)(hw:Wf uS2 c):zqj c.2.2.2.1:=by
 intro r hr
 have h:=hw.2.2.2.1.2 r hr
 have h1:(0:Int)<=r.1/\r.1<=4294967295:=h.1
 have h2:(0:Int)<=r.2/\r.2<=4294967295:=h.2
 exact⟨⟨h1.1,by omega⟩,⟨h2.1,by omega⟩⟩
theorem zhE{b b':List UInt8}{f a' s':Nat}{fr:Frm}(hf:f<=b.length)(h:zkR b f=some (fr,b',a',s')):
  (fr=(2,[])/\b'=b/\f<a'+s')\/(fr.1≠2/\b'.length+2<=b.length/\(fr.1=1->fr.2.length+2<=b.length)):=by
 unfold zkR at h
 cases he:zcs (b.drop f) with
 |none=>rw[he] at h;cases h
 |some e=>
  have hle:=zfR he
  rw[he] at h
  simp only at h
  split at h
  ·cases h
   refine .inr ⟨by simp,by simp;omega,fun h=>by cases h⟩
  ·cases hn:zj7 (slice b f (f+e)) with
   |none=>
    rw[hn] at h
    cases h
    refine .inr ⟨by simp,by simp;omega,fun h=>by simp;omega⟩
   |some n=>
    rw[hn] at h
    simp only at h
    split at h
    ·cases h
     refine .inr ⟨by simp,by simp;omega,fun h=>by cases h⟩
    ·cases h
     exact .inl ⟨rfl,rfl,by omega⟩
theorem zm4:∀ (m:Nat) (b:List UInt8) (f:Nat),b.length-f<m->∀ fr ∈ (km b f).1,fr.1=1->fr.2.length+2<=b.length
 |0,b,f,h=>by omega
 |m+1,b,f,h=>by
  by_cases hf:f<=b.length
  ·rw[xU hf]
   cases hx:zkR b f with
   |none=>exact fun fr h=>by cases h
   |some w=>
    obtain⟨fr,b',a',s'⟩:=w
    obtain⟨h1,h2,h3,h4,h5,_⟩:=za0 hx
    intro x hm hk
    rcases List.mem_cons.1 hm with rfl|hm
    ·rcases zhE hf hx with⟨k,_⟩|⟨_,_,k⟩
     ·rw[k] at hk;cases hk
     ·exact k hk
    ·exact Nat.le_trans (zm4 m b' (a'+s') (by omega) x hm hk) h1
  ·rw[zcp (by omega)];exact fun fr h=>by cases h
theorem zf3(t:List UInt8):∀ (m:Nat) (b:List UInt8) (f:Nat),b.length-f<m->b.length<=t.length+2->(km b f).1.getLast?=some (1,t)->∃ n,(km b f).1=List.replicate n (2,[])++[(1,t)]
 |0,b,f,h,hb,hl=>by omega
 |m+1,b,f,h,hb,hl=>by
  by_cases hf:f<=b.length
  ·rw[xU hf] at hl |-
   cases hx:zkR b f with
   |none=>rw[hx] at hl;cases hl
   |some w=>
    obtain⟨fr,b',a',s'⟩:=w
    obtain⟨h1,h2,h3,h4,h5,_⟩:=za0 hx
    rw[hx] at hl
    simp only at hl |-
    rcases zhE hf hx with⟨rfl,rfl,k⟩|⟨k1,k2,k3⟩
    ·cases hr:(km b' (a'+s')).1 with
     |nil=>rw[hr] at hl;cases hl
     |cons y r=>
      rw[hr] at hl
      rw[List.getLast?_cons_cons,<- hr] at hl
      obtain⟨n,hn⟩:=zf3 t m b' (a'+s') (by omega) hb hl
      rw[<- hr,hn]
      exact⟨n+1,by rw[List.replicate_succ];rfl⟩
    ·cases hr:(km b' (a'+s')).1 with
     |nil=>rw[hr] at hl;cases hl;exact⟨0,rfl⟩
     |cons y r=>
      rw[hr] at hl
      rw[List.getLast?_cons_cons,<- hr] at hl
      have:=zm4 (b'.length+1) b' (a'+s') (by omega) _ (List.mem_of_getLast? hl) rfl
      simp only at this
      omega
  ·rw[zcp (by omega)] at hl;cases hl
theorem zm8{t:List UInt8}(h:(zjA t).2=true):(zjA t).1=t++[13,10]/\(zfh (t++[13,10])).2=0/\∃ n,(zfh (t++[13,10])).1=List.replicate n (2,[])++[(1,t)]:=by
 unfold zjA at h |-
 split at h
 ·rename_i hc
  rw[if_pos hc]
  refine⟨rfl,hc.1,?_⟩
  rw[zfi] at hc |-
  exact zf3 t _ _ 0 (Nat.lt_succ_self _) (by simp) hc.2
 ·cases h
def zrN(fs:List Frm):Nat:=(fs.filter fun fr=>fr.1==2).length
theorem zl5(fs:List Frm)(hfs:fs.length<=20000):∀ (m i c:Nat),i<=fs.length->fs.length<m+i->c<=i->zH 200000 m (c:Int) fs ((fs.length:Nat):Int) (i:Int)=some (((c+zrN (fs.drop i):Nat):Int))
 |0,i,c,hi,h,hc=>by omega
 |m+1,i,c,hi,h,hc=>by
  unfold zH wg
  by_cases hl:i<fs.length
  ·have hw:IntKind.wrap .i64 ((i:Int)+1)=((i+1:Nat):Int):=by rw[wri (by omega) (by omega)];omega
   have hw2:IntKind.wrap .i64 ((c:Int)+1)=((c+1:Nat):Int):=by rw[wri (by omega) (by omega)];omega
   have hn:nth (.pair (.int .i64) (.sl .u8)) fs (Int.toNat (i:Int))=fs[i]:=by rw[Int.toNat_natCast];exact xi (u:=.pair (.int .i64) (.sl .u8)) hl
   simp only[zk5 hl,cond_true,js hl,hn,hw,hw2]
   rw[drop_one hl]
   unfold zrN
   by_cases h2:fs[i].1=2
   ·have:(fs[i].1==2)=true:=by simp [h2]
    rw[this,cond_true,zl5 fs hfs m (i+1) (c+1) (by omega) (by omega) (by omega),List.filter_cons_of_pos (p:=fun fr:Frm=>fr.1==2) this]
    unfold zrN
    rw[List.length_cons];congr 2;omega
   ·have:(fs[i].1==2)=false:=by simp [h2]
    rw[this,cond_false,zl5 fs hfs m (i+1) c (by omega) (by omega) (by omega),List.filter_cons_of_neg (p:=fun fr:Frm=>fr.1==2) (by simp [h2])]
    rfl
  ·have hd:fs.drop i=[]:=List.drop_of_length_le (by omega)
   simp only[zk4 hl,cond_false]
   rw[hd];rfl
theorem zl6(n:Nat)(t:List UInt8):zrN (List.replicate n ((2:Int),([]:List UInt8))++[(1,t)])=n:=by
 unfold zrN
 rw[List.filter_append,List.length_append,List.filter_replicate]
 simp
theorem zlk(c:El uS2)(hw:Wf uS2 c):zX 200000 c=some (true,()):=by
 unfold zX
 obtain⟨f,hf,hs⟩:=zvb c
 rw[hf]
 simp only[Option.bind_some]
 cases f with
 |false=>rfl
 |true=>
  simp only[Bool.not_true,cond_false,cond_true]
  have hu:=zsX c hw
  have hsm:=hs rfl
  obtain⟨t,k,m,st,it,mo,si,fl,da⟩:=c
  simp only at hu hsm
  by_cases hv:VP t k m st it mo si fl da
  ·have hlen:=zfl hsm hv
   have hp:=zlj hsm hu hv
   have hr:=zne hsm hu hv
   unfold jn jE
   rw[hp,hr]
   generalize zfk t k m st it mo si fl da=T at hlen |-
   have hb1:(zjA T).1.length<=100000:=by unfold zjA;split<;>simp<;>omega
   simp only[Option.bind_some,zkh _ _ hb1 hb1,beq_self_eq_true,cond_true]
   cases ho:(zjA T).2 with
   |false=>rfl
   |true=>
    obtain⟨o1,o2,n,o3⟩:=zm8 ho
    have hb:(T++[13,10]).length<=20000:=by simp;omega
    have hcn:=zdv (T++[13,10])
    have hL:=zl5 (zfh (T++[13,10])).1 (by omega) 200000 0 0 (Nat.zero_le _) (by omega) (by omega)
    rw[show((0:Nat):Int)=0 from rfl,List.drop_zero,Nat.zero_add] at hL
    have hl1:(zfh (T++[13,10])).1.length=n+1:=by rw[o3];simp
    have hw:IntKind.wrap .i64 (((zfh (T++[13,10])).1.length:Int)-1)=(n:Int):=by rw[hl1,wri (by omega) (by omega)];omega
    simp only[Bool.not_true,cond_false,o1,zgg 200000 (Nat.le_trans hb (by decide)) (by omega),ziD 200000 (Nat.le_trans hb (by decide)) (by omega) (by omega),Option.bind_some,hL,hw]
    rw[o3,zl6]
    simp
  ·obtain⟨b1,h1,g1⟩:=zgo t k m st it mo si fl da (by have:=hsm.1;omega)
   obtain⟨b2,h2,g2⟩:=ziL t k m st it mo si fl da (by have:=hsm.1;omega) (by have:=hsm.2.2.1;omega)
   have e1:b1=false:=by cases b1 with
    |false=>rfl
    |true=>exact absurd (g1.1 rfl) hv
   have e2:b2=false:=by cases b2 with
    |false=>rfl
    |true=>exact absurd (g2.1 rfl) hv
   subst e1 e2
   have hp:qy 200000 (t,(k,(m,(st,(it,(mo,(si,(fl,da))))))))=some ([],false,()):=by unfold qy;rw[h1];rfl
   have hr:qH 200000 (t,(k,(m,(st,(it,(mo,(si,(fl,da))))))))=some ([],false,()):=by unfold qH;rw[h2];rfl
   unfold jn jE
   rw[hp,hr]
   have hb1:([]:List UInt8).length<=100000:=by decide
   simp only[Option.bind_some,zkh _ _ hb1 hb1,beq_self_eq_true,cond_true]
   rfl
end Go.Proofs.Model
