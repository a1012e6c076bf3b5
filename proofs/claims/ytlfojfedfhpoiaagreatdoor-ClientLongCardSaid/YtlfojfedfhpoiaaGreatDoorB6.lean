/- The machines and the plain laws, part 6. -/
import Derived.Test.YtlfojfedfhpoiaaGreatDoorB5
import Derived.KernelRfl
import Derived.Lib.Join
set_option linter.unusedVariables false
set_option linter.unusedSectionVars false
set_option linter.unusedSimpArgs false
set_option maxRecDepth 100000
namespace Go.Sx
open Go Go.Gx Go.Mx
variable [qG]
def zsu(u:U)(rs:List U):SC->Option (El u×El (ki rs))
 |.ret v h=>match unS rs v with
  |some vs=>match qz rs vs h with
   |some (y,h1)=>match(h1[0]?:Option SB) with
    |some (.cells cs 0 _)=>match dec u cs h1 with
     |some (x,[],h2)=>match(h2[0]?:Option SB) with
      |some (.cells _ 0 _)=>some (x,y)
      |_=>none
     |_=>none
    |_=>none
   |none=>none
  |none=>none
 |.pan _ _=>none
def zoE(u:U)(us rs:List U)(F:El u->El (ki us)->Option (El u×El (ki rs))):CF:=fun R args h κ=>match args with
 |.ptr loc 0 lim::args=>match Nat.beq lim u.sz,qz us args h with
  |true,some (y,h1)=>match h1[loc]? with
   |some (.cells cs 0 _)=>match dec u cs h1 with
    |some (x,[],h2)=>match h2[loc]? with
     |some (.cells _ 0 _)=>(F x y).bind fun p=>κ (.ret (zkp (qg rs p.2)) (h2.set loc (.cells (enc u p.1) 0)))
     |_=>none
    |_=>none
   |_=>none
  |_,_=>none
 |_=>none
section
variable {P:Program} {gl:GL} {ct:CT} {hk:qx}
theorem zqj{rs:List U}{v:SV}{vs:List SV}{Z:Gst}{xv:AV}(hvs:unS rs v=some vs)(hv:RV Z v xv)(y:El (ki rs)):
  ∃ xs,RVs Z vs xs/\∀ W,(RVs W (qg rs y) xs->RV W (zkp (qg rs y)) xv):=by
 unfold unS at hvs
 split at hvs
 ·cases hvs
  exact⟨[xv],.one hv,fun W ⟨a,t,e,q,ht⟩=>by cases e;exact q⟩
 ·rename_i hrs
  split at hvs
  ·cases hvs
   obtain⟨l',rfl,q⟩:=hv
   refine⟨l',q,fun W hW=>?_⟩
   have:zkp (qg rs y)=.tup (qg rs y):=by
    match rs,y,hrs with
    | [],_,_=>rfl
    | [u],_,hrs=>exact absurd rfl (hrs u)
    |_::_::_,_,_=>rfl
   rw[this];exact⟨l',rfl,hW⟩
  ·cases hvs
theorem zdX{X:Gst}(hr:RH X){loc md:Nat}{cs:List SV}{mk:Option TypeId}(h:X.sh[loc]?=some (.cells cs md mk)):∃ m l tt,X.σ[loc]?=some (some (m,0))/\X.h[m]?=some (.row l 0 0 0 false tt)/\RVs X cs l:=by
 have hl:loc<X.σ.length:=by rw[hr.len];exact(List.getElem?_eq_some_iff.1 h).1
 obtain⟨m,l,tt,e,h1,h2⟩:=hr.blk loc _ _ h (List.getElem?_eq_getElem hl)
 exact⟨m,l,mk.or tt,by rw[List.getElem?_eq_getElem hl,e],h1,h2⟩
theorem zii{f:FuncId}{u:U}{us rs:List U}{F:El u->El (ki us)->Option (El u×El (ki rs))}{run:CF}(hrun:zec P gl hk f run)
  (hF:∀ x y,run _ (.ptr 0 0 u.sz::qg us y) [.cells (enc u x) 0] (zsu u rs)=F x y):zec P gl hk f (zoE u us rs F):=by
 intro R args κ r X margs h hargs hr hg
 unfold zoE at h
 split at h
 ·rename_i loc lim args'
  obtain⟨x0,xs,rfl,⟨m,⟨v0,hat⟩,rfl⟩,hargs⟩:=hargs
  split at h
  ·rename_i y h1 hlim hd1
   have hlim:=Nat.eq_of_beq_eq_true hlim
   subst hlim
   split at h
   ·rename_i cs hcs
    split at h
    ·rename_i x h2 hd2
     split at h
     ·rename_i cs2 hcs2
      obtain⟨Y1,S1,hh1,hs1,hA1⟩:=qq us hr hargs hd1
      rw[<- hs1] at hcs hd2
      obtain⟨m1,l1,tt1,e1,g1,q1⟩:=zdX S1.hr hcs
      obtain⟨v1,e1'⟩:=S1.le.at_ loc m v0 hat
      rw[e1] at e1';cases e1'
      obtain⟨Y2,c1,c2,S2,hh2,hs2,ec,hRE,hc2⟩:=ka u S1.hr q1 hd2
      cases(show c2=[] from hc2)
      rw[List.append_nil] at ec
      subst ec
      rw[<- hs2] at hcs2 h
      obtain⟨v2,e2'⟩:=S2.le.at_ loc m 0 e1
      obtain⟨m2,l2,tt2,e2,g2,q2⟩:=zdX S2.hr hcs2
      rw[e2] at e2';cases e2'
      rw[hh2] at g2
      rw[g1] at g2;cases g2
      have hnΦ:¬ Y2.Φ m:=fun hΦ=>(S2.hr.own loc m 0 _ hcs2 e2 hΦ).elim (fun e=>by cases e) (fun e=>by cases e)
      have hrow:Y2.h[m]?=some (.row l1 0 0 0 false tt1):=by rw[hh2];exact g1
      have hbσ:∀ (i m' v':Nat),([some (m,0)]:List (Option (Nat×Nat)))[i]?=some (some (m',v'))->i=0/\m'=m/\v'=0:=by
       intro i m' v' hi
       cases i with
       |zero=>simp at hi;exact⟨rfl,hi.1.symm,hi.2.symm⟩
       |succ i=>simp at hi
      have hbs:∀ (i:Nat) (b:SB),([.cells (enc u x) 0]:SH)[i]?=some b->i=0/\b=.cells (enc u x) 0:=by
       intro i b hi
       cases i with
       |zero=>simp at hi;exact⟨rfl,hi.symm⟩
       |succ i=>simp at hi
      have hB:RH (⟨Y2.h,Y2.Φ,[some (m,0)],[.cells (enc u x) 0]⟩:Gst):=by
       refine⟨rfl,fun i j m' v v' h1 h2=>by rw[(hbσ i m' v h1).1,(hbσ j m' v' h2).1],fun i m' v h1=>?_,S2.hr.Φlt,fun i b o h1 h2=>?_,fun i m' v b h1 h2 h3=>?_⟩
       ·rw[(hbσ i m' v h1).2.1];exact S2.hr.lt loc m 0 e2
       ·obtain⟨rfl,rfl⟩:=hbs i b h1
        have h2:o=some (m,0):=by simpa using h2.symm
        subst h2
        exact⟨m,l1,tt1,rfl,hrow,jI hRE⟩
       ·rw[(hbσ i m' v h2).2.1] at h3;exact absurd h3 hnΦ
      have hgB:RGl P gl (⟨Y2.h,Y2.Φ,[some (m,0)],[.cells (enc u x) 0]⟩:Gst):=fun g cs hg'=>((hg.le S1.le).le S2.le) g cs hg'
      have hargsB:RVs (⟨Y2.h,Y2.Φ,[some (m,0)],[.cells (enc u x) 0]⟩:Gst) (.ptr 0 0 u.sz::qg us y) (.ptr m 0 0 u.sz::xs):=
       ⟨_,_,rfl,⟨m,⟨0,rfl⟩,rfl⟩,hA1 _ hh2 fun m' hm=>S2.le.Φ m' hm⟩
      cases hFx:F x y with
      |none=>rw[hFx] at h;cases h
      |some p=>
       rw[hFx] at h
       rw[<- hF x y] at hFx
       obtain⟨q,Z,mq,k1,S3,hcr,ev⟩:=hrun _ _ _ _ _ _ hFx hargsB hB hgB
       cases q with
       |pan v sh=>cases k1
       |ret v sh=>
        cases mq with
        |pan=>cases hcr
        |ret xv hv'=>
         obtain⟨z1,z2,hv⟩:=hcr
         simp only[zsu] at k1
         split at k1
         ·rename_i vs hvs
          split at k1
          ·rename_i y' h3 hd3
           split at k1
           ·rename_i cs3 hcs3
            split at k1
            ·rename_i x' h4 hd4
             split at k1
             ·rename_i cs4 hcs4
              cases k1
              rw[<- z1] at hd3
              obtain⟨ys,hys,hone⟩:=zqj hvs hv y'
              obtain⟨Z1,S4,hh3,hs3,hA3⟩:=qq rs S3.hr hys hd3
              rw[<- hs3] at hcs3 hd4
              obtain⟨m3,l3,tt3,e3,g3,q3⟩:=zdX S4.hr hcs3
              obtain⟨v3,e3'⟩:=S4.le.at_ 0 m _ (S3.le.at_ 0 m 0 rfl).choose_spec
              rw[e3] at e3';cases e3'
              obtain⟨Z2,d1,d2,S5,hh4,hs4,ed,hRE2,hd2'⟩:=ka u S4.hr q3 hd4
              cases(show d2=[] from hd2')
              rw[List.append_nil] at ed
              subst ed
              rw[<- hs4] at hcs4
              obtain⟨m4,l4,tt4,e4,g4,q4⟩:=zdX S5.hr hcs4
              obtain⟨v4,e4'⟩:=S5.le.at_ 0 m 0 e3
              rw[e4] at e4';cases e4'
              rw[hh4,g3] at g4;cases g4
              have hnΦ2:¬ Z2.Φ m:=fun hΦ=>(S5.hr.own 0 m 0 _ hcs4 e4 hΦ).elim (fun e=>by cases e) (fun e=>by cases e)
              have hrow2:Z2.h[m]?=some (.row l3 0 0 0 false tt3):=by rw[hh4];exact g3
              have S6:=(S3.trans S4).trans S5
              have hsame:∀ m',m'<Y2.h.length->m'≠m->Z2.h[m']?=Y2.h[m']?:=fun m' hm hne=>S6.fm.h m' hm fun i v b hb hσ=>absurd (hbσ i m' v hσ).2.1 hne
              have hphi:∀ m',m'<Y2.h.length->Z2.Φ m'->Y2.Φ m':=fun m' hm hΦ=>(S6.fm.phi m' hm hΦ).elim id fun⟨i,v,b,hb,hσ,_⟩=>by
               rw[(hbσ i m' v hσ).2.1] at hΦ;exact absurd hΦ hnΦ2
              have hloc:loc<Y2.sh.length:=(List.getElem?_eq_some_iff.1 hcs2).1
              have hle:Y2.le ⟨Z2.h,Z2.Φ,Y2.σ,Y2.sh.set loc (.cells (enc u x') 0)⟩:=by
               refine⟨fun m' hm=>hsame m' (S2.hr.Φlt m' hm) fun e=>hnΦ (e ▸ hm),S6.le.Φ,Nat.le_refl _,fun _ _ v h=>⟨v,h⟩,fun i w l k md hi hs=>?_,S2.hr.len⟩
               rcases zt hs with⟨_,e⟩|⟨_,hs⟩
               ·cases e
               ·exact⟨l,k,md,hs,Nat.le_refl _,fun _=>⟨rfl,rfl⟩⟩
              have hW:RVs (⟨Z2.h,Z2.Φ,Y2.σ,Y2.sh.set loc (.cells (enc u x') 0)⟩:Gst) (enc u x') l3:=jI hRE2
              have S7:Stp Y2 ⟨Z2.h,Z2.Φ,Y2.σ,Y2.sh.set loc (.cells (enc u x') 0)⟩:=by
               refine⟨hle,⟨by rw[List.length_set];exact S2.hr.len,S2.hr.inj,fun i m' v h=>Nat.lt_of_lt_of_le (S2.hr.lt i m' v h) S6.fm.len,S5.hr.Φlt,fun i b o hb ho=>?_,fun i m' v b hb ho hΦ=>?_⟩,
                ⟨S6.fm.len,fun m' hm hx=>hsame m' hm fun e=>?_,fun i b hb hm=>?_,fun i m' v h _=>⟨v,h⟩,fun i hgn=>?_,fun m' hm hΦ=>.inl (hphi m' hm hΦ)⟩⟩
               ·rcases zt hb with⟨rfl,rfl⟩|⟨hne,hb⟩
                ·rw[e2] at ho;cases ho
                 exact⟨m,l3,tt3,rfl,hrow2,hW⟩
                ·refine(S2.hr.blk i b o hb ho).le hle fun m' v e=>hsame m' (S2.hr.lt i m' v (e ▸ ho)) fun em=>?_
                 subst e;subst em
                 exact hne (S2.hr.inj i loc _ _ _ ho e2)
               ·rcases zt hb with⟨rfl,rfl⟩|⟨hne,hb⟩
                ·rw[e2] at ho;cases ho
                 exact absurd hΦ hnΦ2
                ·exact S2.hr.own i m' v b hb ho (hphi m' (S2.hr.lt i m' v ho) hΦ)
               ·subst e
                exact absurd rfl (hx loc 0 _ hcs2 e2)
               ·have hne:i≠loc:=fun e=>by subst e;rw[hcs2] at hb;cases hb;exact hm rfl
                exact⟨b,by rw[List.getElem?_set_ne (Ne.symm hne)];exact hb,hm⟩
               ·have hne:i≠loc:=fun e=>by subst e;rw[hcs2] at hgn;cases hgn
                exact⟨by rw[List.getElem?_set_ne (Ne.symm hne)];exact hgn,rfl⟩
              refine⟨_,_,.ret xv hv',h,(S1.trans S2).trans S7,⟨rfl,?_,hone _ (hA3 _ (by rw[<- hh4]) fun m' hm=>S5.le.Φ m' hm)⟩,?_⟩
              ·show Z2.h=hv';rw[hh4,hh3,z2]
              ·rw[<- hh1,<- hh2];exact ev
             ·cases k1
            ·cases k1
           ·cases k1
          ·cases k1
         ·cases k1
     ·cases h
    ·cases h
   ·cases h
  ·cases h
 ·cases h
theorem fnP{T:FT}{al:List FuncId}(hh:zna P hk al)(hT:zh5 P gl hk T){f:FuncId}{u:U}{us rs:List U}{F:El u->El (ki us)->Option (El u×El (ki rs))}(pl:Pl){fn:Func}(hf:P.funcs[f]?=some fn){ls:List (Code×LF)}(hs:xS P gl hk ls)
  (ha:(al.all fun f=>zkU T f)=true:=by rfl) (n:Nat:=1500) (h:(match fn.body with|some b=>zD P pl b|none=>none)=some ls:=by kernel_rfl)
  (hF:∀ x y,jY P gl (zd4 T) n pl f (.ptr 0 0 u.sz::qg us y) [.cells (enc u x) 0] (zsu u rs)=F x y:=by intro x y;kernel_rfl):zh5 P gl hk ((f,zoE u us rs F)::T):=
 ⟨zii (run:=fun R args h κ=>jY P gl (zd4 T) (R:=R) n pl f args h κ) ((zc2 (zpk hh ha hT) n).2.2.1 pl f (zeI hf h hs)) hF,hT⟩
def zst(u:U)(rs:List U):SC->Option (List (El u)×El (ki rs))
 |.ret v h=>match unS (.sl u::rs) v with
  |some (v0::vs)=>match qz rs vs h with
   |some (y,h1)=>match v0 with
    |.a .qH=>some ([],y)
    |.gs loc n=>match(h1[loc]?:Option SB) with
     |some (.seq u' l k 0)=>match Nat.beq n k,wK u' u l with
      |true,some l'=>some (l',y)
      |_,_=>none
     |_=>none
    |_=>none
   |none=>none
  |_=>none
 |.pan _ _=>none
def zrO(u:U)(us rs:List U)(F:El (ki us)->Option (List (El u)×El (ki rs))):CF:=fun R args h κ=>match qz us args h with
 |some (x,h')=>(F x).bind fun p=>κ (.ret (zkp (.gs h'.length 0::qg rs p.2)) (h'++[.seq u p.1 0 0]))
 |none=>none
theorem zoq{u:U}{rs:List U}{v:SV}{vs:List SV}{Z:Gst}{xv:AV}(hvs:unS (.sl u::rs) v=some vs)(hv:RV Z v xv):
  ∃ xs,RVs Z vs xs/\∀ (W:Gst) (w:SV) (ws:List SV),(rs=[]->ws=[])->(rs≠[]->ws≠[])->RVs W (w::ws) xs->RV W (zkp (w::ws)) xv:=by
 cases rs with
 |nil=>
  cases hvs
  refine⟨[xv],.one hv,fun W w ws h1 _ ⟨a,t,e,q,ht⟩=>?_⟩
  rw[h1 rfl];cases e;exact q
 |cons u2 rs=>
  simp only[unS] at hvs
  split at hvs
  ·cases hvs
   obtain⟨l',rfl,q⟩:=hv
   refine⟨l',q,fun W w ws _ h2 hW=>?_⟩
   have:=h2 (by simp)
   cases ws with
   |nil=>exact absurd rfl this
   |cons w2 ws=>exact⟨l',rfl,hW⟩
  ·cases hvs
theorem zcG:∀ (rs:List U) (y:El (ki rs)),(qg rs y).length=rs.length
 | [],_=>rfl
 |_::rs,y=>by simp [qg,zcG rs y.2]
theorem zih{f:FuncId}{u:U}{us rs:List U}{F:El (ki us)->Option (List (El u)×El (ki rs))}{run:CF}(hrun:zec P gl hk f run)
  (hF:∀ x,run _ (qg us x) [] (zst u rs)=F x):zec P gl hk f (zrO u us rs F):=by
 intro R args κ r X margs h hargs hr hg
 unfold zrO at h
 split at h
 ·rename_i x h' hd
  obtain⟨Y,S1,hh1,hs1,hA⟩:=qq us hr hargs hd
  cases hFx:F x with
  |none=>rw[hFx] at h;cases h
  |some p=>
   obtain⟨l,y⟩:=p
   rw[hFx] at h
   have hY:RH Y.base:=⟨rfl,fun i j m v v' h=>by simp [Gst.base] at h,fun i m v h=>by simp [Gst.base] at h,S1.hr.Φlt,fun i b o h=>by simp [Gst.base] at h,fun i m v b h=>by simp [Gst.base] at h⟩
   have hgY:RGl P gl Y.base:=fun g cs hg'=>(hg.le S1.le) g cs hg'
   rw[<- hF x] at hFx
   obtain⟨q,Z,mq,k1,S2,hcr,ev⟩:=hrun _ _ _ _ Y.base margs hFx (hA Y.base rfl fun _ h=>h) hY hgY
   cases q with
   |pan v sh=>cases k1
   |ret v sh=>
    cases mq with
    |pan=>cases hcr
    |ret xv hv'=>
     obtain⟨e1,e2,hv⟩:=hcr
     simp only[zst] at k1
     split at k1
     ·rename_i v0 vs hvs
      split at k1
      ·rename_i y' h2 hd2
       rw[<- e1] at hd2
       obtain⟨xs0,hxs0,hone⟩:=zoq hvs hv
       obtain⟨x0,xs,rfl,hx0,hxs⟩:=hxs0
       obtain⟨Z2,S3,hh3,hs3,hA3⟩:=qq rs S2.hr hxs hd2
       have S4:=S2.trans S3
       have hx0':RV Z2 v0 x0:=hx0.le S3.le
       have hsame:∀ m,m<Y.h.length->Z2.h[m]?=Y.h[m]?:=fun m hm=>S4.fm.h m hm fun i v b hb=>by simp [Gst.base] at hb
       have hphi:∀ m,m<Y.h.length->Z2.Φ m->Y.Φ m:=fun m hm hΦ=>(S4.fm.phi m hm hΦ).elim id fun⟨i,v,b,hb,_⟩=>by simp [Gst.base] at hb
       have key:∀ (o:Option (Nat×Nat)) (l:List (El u)),(∀ m ver,o=some (m,ver)->Y.h.length<=m/\m<Z2.h.length/\¬ Z2.Φ m)->(∀ W:Gst,W.h=Z2.h->W.Φ=Z2.Φ->RB W (.seq u l 0 0) o) ->
         (match o with|some (m,ver)=>x0=.sl m 0 l.length u.sz ver false|none=>x0=.qH/\l.length=0)->(κ (.ret (zkp (.gs h'.length 0::qg rs y')) (h'++[.seq u l 0 0]))=some r) ->
         ∃ q Y' mq,κ q=some r/\Stp X Y'/\CRR Y' q mq/\Ev fun n=>qR P hk (ju P hk n) (.f f) margs X.h=some mq:=by
        intro o l hm hB hx h
        have hpush:∀ {j:Nat} {z:Option (Nat×Nat)},(Y.σ++[o])[j]?=some z->Y.σ[j]?=some z\/(j=Y.σ.length/\o=z):=fun h=>zy h
        have hσ:∀ (i:Nat),i<Y.σ.length->(Y.σ++[o])[i]?=Y.σ[i]?:=fun i hi=>List.getElem?_append_left hi
        have hle:Y.le ⟨Z2.h,Z2.Φ,Y.σ++[o],Y.sh++[.seq u l 0 0]⟩:=by
         refine⟨fun m hm=>hsame m (S1.hr.Φlt m hm),S4.le.Φ,by simp,fun loc m v h=>⟨v,by rw[hσ _ (List.getElem?_eq_some_iff.1 h).1];exact h⟩,fun loc w l' k md hi hs=>?_,S1.hr.len⟩
         dsimp only at hs
         rw[List.getElem?_append_left hi] at hs
         exact⟨l',k,md,hs,Nat.le_refl _,fun _=>⟨rfl,hσ _ (by rw[S1.hr.len];exact hi)⟩⟩
        have S5:Stp Y ⟨Z2.h,Z2.Φ,Y.σ++[o],Y.sh++[.seq u l 0 0]⟩:=by
         refine⟨hle,⟨by simp [S1.hr.len],fun i j m v v' h1 h2=>?_,fun i m v h1=>?_,S4.hr.Φlt,fun i b o' h1 h2=>?_,fun i m v b h1 h2 h3=>?_⟩,⟨S4.fm.len,fun m hm' _=>hsame m hm',fun i b hb hm'=>⟨b,?_,hm'⟩,fun i m v h1 hm'=>?_,fun i h1=>⟨?_,?_⟩,fun m hm' hΦ=>.inl (hphi m hm' hΦ)⟩⟩
         ·rcases hpush h1 with q1|⟨e1,q1⟩<;>rcases hpush h2 with q2|⟨e2,q2⟩
          ·exact S1.hr.inj _ _ _ _ _ q1 q2
          ·have:=(hm m v' q2).1;have:=S1.hr.lt _ _ _ q1;omega
          ·have:=(hm m v q1).1;have:=S1.hr.lt _ _ _ q2;omega
          ·exact e1.trans e2.symm
         ·rcases hpush h1 with q1|⟨_,q1⟩
          ·exact Nat.lt_of_lt_of_le (S1.hr.lt _ _ _ q1) S4.fm.len
          ·exact(hm m v q1).2.1
         ·rcases zy h1 with q1|⟨rfl,rfl⟩
          ·have hi:=(List.getElem?_eq_some_iff.1 q1).1
           dsimp only at h2
           rw[hσ _ (by rw[S1.hr.len];exact hi)] at h2
           exact(S1.hr.blk i b o' q1 h2).le hle fun m v e=>hsame m (S1.hr.lt i m v (e ▸ h2))
          ·dsimp only at h2
           rw[<- S1.hr.len,List.getElem?_append_right (Nat.le_refl _)] at h2
           simp at h2;subst h2
           exact hB _ rfl rfl
         ·rcases zy h1 with q1|⟨rfl,rfl⟩
          ·have hi:=(List.getElem?_eq_some_iff.1 q1).1
           dsimp only at h2
           rw[hσ _ (by rw[S1.hr.len];exact hi)] at h2
           exact S1.hr.own i m v b q1 h2 (hphi m (S1.hr.lt i m v h2) h3)
          ·dsimp only at h2
           rw[<- S1.hr.len,List.getElem?_append_right (Nat.le_refl _)] at h2
           simp at h2
           exact absurd h3 (hm m v h2).2.2
         ·show(Y.sh++[_])[i]?=_
          rw[List.getElem?_append_left (List.getElem?_eq_some_iff.1 hb).1];exact hb
         ·rcases hpush h1 with q1|⟨_,q1⟩
          ·exact⟨v,q1⟩
          ·have:=(hm m v q1).1;omega
         ·show(Y.sh++[_])[i]?=_
          rw[List.getElem?_append_left (List.getElem?_eq_some_iff.1 h1).1];exact h1
         ·exact hσ i (by rw[S1.hr.len];exact(List.getElem?_eq_some_iff.1 h1).1)
        refine⟨_,_,.ret xv hv',h,S1.trans S5,⟨by rw[hs1],?_,?_⟩,?_⟩
        ·show Z2.h=hv';rw[hh3,e2]
        ·refine hone _ _ _ (fun e=>List.eq_nil_of_length_eq_zero (by rw[zcG,e];rfl)) (fun e=>?_) ⟨x0,xs,rfl,?_,hA3 _ rfl fun _ h=>h⟩
         ·intro e2
          have:=zcG rs y'
          rw[e2] at this
          exact e (List.eq_nil_of_length_eq_zero this.symm)
         ·have hl:h'.length=Y.σ.length:=by rw[S1.hr.len,hs1]
          refine⟨?_,o,?_,fun w l2 k md hs=>?_⟩
          ·cases o with
           |none=>rw[hx.1];rfl
           |some p=>obtain⟨m,ver⟩:=p;simp only at hx;rw[hx];rfl
          ·show(Y.σ++[o])[h'.length]?=some o
           rw[hl,List.getElem?_append_right (Nat.le_refl _)];simp
          ·have hs:(Y.sh++[SB.seq u l 0 0])[h'.length]?=some (.seq w l2 k md):=hs
           rw[hl,S1.hr.len,List.getElem?_append_right (Nat.le_refl _)] at hs
           simp at hs
           obtain⟨rfl,e,rfl,rfl⟩:=hs
           cases e
           refine⟨Nat.le_refl _,fun _=>?_⟩
           cases o with
           |none=>exact hx
           |some p=>exact hx
        ·rw[<- hh1];exact ev
       split at k1
       ·cases k1
        cases(show x0=_ from hx0')
        exact key none [] (fun m ver e=>by cases e) (fun W _ _=>rfl) ⟨rfl,rfl⟩ h
       ·rename_i loc n
        split at k1
        ·rename_i u' l1 k hb
         split at k1
         ·rename_i l2 hn hc
          cases k1
          have hn:=Nat.eq_of_beq_eq_true hn
          subst hn
          obtain⟨e,hc⟩:=zP hc
          subst e;cases hc
          rw[<- hs3] at hb
          obtain⟨ho,o,hσo,hcur⟩:=hx0'
          have hq:=(hcur _ _ _ _ hb).2 rfl
          have hRB:=S4.hr.blk loc _ o hb hσo
          refine key o _ (fun m ver e=>?_) (fun W w1 w2=>?_) ?_ h
          ·subst e
           refine⟨?_,S4.hr.lt loc m ver hσo,fun hΦ=>(S4.hr.own loc m ver _ hb hσo hΦ).elim (fun e=>by cases e) (fun e=>by cases e)⟩
           rcases Nat.lt_or_ge m Y.h.length with hlt|hge
           ·obtain⟨v',hv2⟩:=S4.fm.new loc m ver hσo hlt
            simp [Gst.base] at hv2
           ·exact hge
          ·cases o with
           |none=>exact hRB
           |some p=>
            obtain⟨m,ver⟩:=p
            obtain⟨cells,minv,tt,g1,g2,g3,g4⟩:=hRB
            exact⟨cells,minv,_,by rw[w1,zjD (n:=0) rfl];exact g1,g2,by rw[w1,w2];exact g3,fun e=>by cases e⟩
          ·cases o with
           |none=>exact hq
           |some p=>exact hq
         ·cases k1
        ·cases k1
       ·cases k1
      ·cases k1
     ·cases k1
 ·cases h
theorem fnO{T:FT}{al:List FuncId}(hh:zna P hk al)(hT:zh5 P gl hk T){f:FuncId}{u:U}{us rs:List U}{F:El (ki us)->Option (List (El u)×El (ki rs))}(pl:Pl){fn:Func}(hf:P.funcs[f]?=some fn){ls:List (Code×LF)}(hs:xS P gl hk ls)
  (ha:(al.all fun f=>zkU T f)=true:=by rfl) (n:Nat:=1500) (h:(match fn.body with|some b=>zD P pl b|none=>none)=some ls:=by kernel_rfl)
  (hF:∀ x,jY P gl (zd4 T) n pl f (qg us x) [] (zst u rs)=F x:=by intro x;kernel_rfl):zh5 P gl hk ((f,zrO u us rs F)::T):=
 ⟨zih (run:=fun R args h κ=>jY P gl (zd4 T) (R:=R) n pl f args h κ) ((zc2 (zpk hh ha hT) n).2.2.1 pl f (zeI hf h hs)) hF,hT⟩
end
end Go.Sx
namespace Go.Sx
open Go Go.Gx Go.Mx
theorem wri{x:Int}(h:-9223372036854775808<=x)(h':x<=9223372036854775807):IntKind.wrap .i64 x=x:=by
 simp [IntKind.wrap,IntKind.bits,IntKind.signed];omega
theorem xD{i n:Nat}(h:i<n):inb (i:Int) n=true:=by
 unfold inb;simp;omega
theorem zfk{a b n:Nat}(h:a<=b)(h':b<=n):wm (a:Int) (b:Int) n=true:=by
 unfold wm;simp;omega
theorem zkm{u:U}{l:List (El u)}{i:Nat}(h:i<l.length):nth u l i=l[i]:=by
 unfold nth;rw[List.getD_eq_getElem?_getD,List.getElem?_eq_getElem h];rfl
theorem drop_one{α:Type}{l:List α}{i:Nat}(h:i<l.length):l.drop i=l[i]::l.drop (i+1):=List.drop_eq_getElem_cons h
theorem zrQ{i n:Nat}(h:i<n):decide ((i:Int)<(n:Int))=true:=by simp;omega
theorem zrP{i n:Nat}(h:¬ i<n):decide ((i:Int)<(n:Int))=false:=by simp;omega
theorem zaN{α:Type}{l:List α}{n:Nat}:slice l 0 n=l.take n:=by unfold slice;simp
theorem zkF{α:Type}{l:List α}{a:Nat}:slice l a l.length=l.drop a:=by
 unfold slice;rw[List.take_of_length_le];rw[List.length_drop];exact Nat.le_refl _
section
variable {u v:U} (hS:∀ a b:El u,zkB u a b=true↔a=b)
include hS
end
end Go.Sx
namespace Go.Proofs.Model
open Go Go.Gx Go.Mx Go.Sx
theorem zk5{p:UInt8->Bool}(h:((List.range 256).all fun n=>p (UInt8.ofNat n))=true)(c:UInt8):p c=true:=by
 rw[List.all_eq_true] at h
 have:=h c.toNat (List.mem_range.2 c.toNat_lt)
 rwa [UInt8.ofNat_toNat] at this
def bOf(o:Option (Bool×Unit)):Bool:=match o with
 |some (b,_)=>b
 |none=>false
def zeF(c:UInt8):Bool:=bOf (kk 0 c)
def zko(c:UInt8):Bool:=bOf (zbj 0 c)
def zeG(c:UInt8):Bool:=bOf (zab 0 c)
def isB(o:Option (Bool×Unit))(b:Bool):Bool:=match o with
 |some (x,_)=>x==b
 |none=>false
theorem zlG{o:Option (Bool×Unit)}{b:Bool}(h:isB o b=true):o=some (b,()):=by
 unfold isB at h
 split at h
 ·rename_i x u;rw[beq_iff_eq] at h;subst h;rfl
 ·cases h
theorem zun(N:Nat)(c:UInt8):zaA N c=some (zko c,()):=zlG (zk5 (p:=fun c=>isB (zaA 0 c) (zko c)) (by kernel_rfl) c)
theorem zsy(N:Nat)(c:UInt8):xq N c=some (zeG c,()):=zlG (zk5 (p:=fun c=>isB (xq 0 c) (zeG c)) (by kernel_rfl) c)
theorem ztW(N:Nat)(c:UInt8):xo N c=some (zeF c,()):=zlG (zk5 (p:=fun c=>isB (xo 0 c) (zeF c)) (by kernel_rfl) c)
theorem ze2{n:Nat}(h:n<=200000):Nat.blt n zA=true:=by
 rw[Nat.blt_eq];unfold zA;omega
def dgt(n k:Nat):UInt8:=UInt8.ofNat (48+n/k % 10)
theorem zdu(n:Nat):Int.tmod ((n:Nat):Int) 100=((n % 100:Nat):Int):=rfl
theorem zdv(n:Nat):Int.tmod ((n:Nat):Int) 10000=((n % 10000:Nat):Int):=rfl
theorem zdw(n:Nat):Int.tmod ((n:Nat):Int) 100000000=((n % 100000000:Nat):Int):=rfl
theorem zdr(n:Nat):Int.tdiv ((n:Nat):Int) 100=((n/100:Nat):Int):=rfl
theorem zds(n:Nat):Int.tdiv ((n:Nat):Int) 10000=((n/10000:Nat):Int):=rfl
theorem zdt(n:Nat):Int.tdiv ((n:Nat):Int) 100000000=((n/100000000:Nat):Int):=rfl
theorem zhw(n:Nat):((n:Nat):Int)*2=((n*2:Nat):Int):=rfl
theorem zgJ(n:Nat):((n:Nat):Int)+1=((n+1:Nat):Int):=rfl
theorem zdb(n:Nat):(48:Int)+((n:Nat):Int)=((48+n:Nat):Int):=rfl
theorem zng{n:Nat}(h:n<4294967296):IntKind.wrap .u32 ((n:Nat):Int)=((n:Nat):Int):=by rw[IntKind.wrap_u32];omega
theorem zh4{n:Nat}(h:n<18446744073709551616):IntKind.wrap .u64 ((n:Nat):Int)=((n:Nat):Int):=by rw[IntKind.wrap_u64];omega
theorem kE{k:Nat}(h:k<100):nth .u8 xY (k*2)=UInt8.ofNat (48+k/10):=by
 have key:((List.range 100).all fun k=>nth .u8 xY (k*2)==UInt8.ofNat (48+k/10))=true:=by kernel_rfl
 rw[List.all_eq_true] at key
 exact beq_iff_eq.1 (key k (List.mem_range.2 h))
theorem zax{k:Nat}(h:k<100):nth .u8 xY (k*2+1)=UInt8.ofNat (48+k % 10):=by
 have key:((List.range 100).all fun k=>nth .u8 xY (k*2+1)==UInt8.ofNat (48+k % 10))=true:=by kernel_rfl
 rw[List.all_eq_true] at key
 exact beq_iff_eq.1 (key k (List.mem_range.2 h))
theorem wO{n:Nat}(h:n<256):zcw ((n:Nat):Int)=UInt8.ofNat n:=by
 unfold zcw
 rw[IntKind.wrap_u8,show(((n:Nat):Int) % 256).toNat=n by omega]
theorem wF{n a b:Nat}(h:a=n/b % 10):UInt8.ofNat (48+a)=dgt n b:=by rw[h];rfl
theorem zt4(N n:Nat)(hN:10<=N)(h1:100<=n)(h2:n<1000)(hm:n<4294967296)(hd:zf N ((n:Nat):Int)=some ((3:Int),())):ze N ((n:Nat):Int)=some ([dgt n 100,dgt n 10,dgt n 1],()):=by
 obtain⟨m,hm2⟩:∃ m,N=m+2:=⟨N-2,by omega⟩
 have hl:za N N=za N (m+2):=congrArg _ hm2
 have c0:decide (((n:Nat):Int)<100)=false:=by simp;omega
 unfold ze
 simp only[zh4 (show n<18446744073709551616 by omega)]
 simp only[hd,hl,Option.bind_some,c0,cond_false,cond_true,show wm (0:Int) (3:Int) 24=true from rfl,show((Int.toNat (3:Int))-0:Nat)=3 from rfl]
 unfold za zg
 simp (disch:=omega) only[zng,zh4,zdu,zdv,zdw,zdr,zds,zdt,zhw,zgJ,zdb,Int.toNat_natCast,xD,kE,zax,wO,cond_true,cond_false,Option.bind_some,
  show inb (0:Int) 3=true from rfl,show inb (1:Int) 3=true from rfl,show inb (2:Int) 3=true from rfl,show(0+Int.toNat (1:Int):Nat)=1 from rfl,show(0+Int.toNat (2:Int):Nat)=2 from rfl,show(0+0:Nat)=0 from rfl,show(0+3:Nat)=3 from rfl,show decide ((8:Int)<=((3:Nat):Int))=false from rfl,show decide ((4:Int)<=((3:Nat):Int))=false from rfl,show decide ((2:Int)<=((3:Nat):Int))=true from rfl,show IntKind.wrap .i64 (((3:Nat):Int)-(1:Int))=(2:Int) from rfl,show IntKind.wrap .i64 (((3:Nat):Int)-(2:Int))=(1:Int) from rfl,show decide ((0:Int)<(1:Int))=true from rfl]
 simp only[slice,List.set_cons_succ,List.set_cons_zero,List.drop_zero,List.take_succ_cons,List.take_zero,Nat.sub_zero,Option.some.injEq,Prod.mk.injEq,List.cons.injEq,and_true]
 refine⟨?_,?_,?_⟩<;>exact wF (by omega)
theorem zt5(N n:Nat)(hN:10<=N)(h1:1000<=n)(h2:n<10000)(hm:n<4294967296)(hd:zf N ((n:Nat):Int)=some ((4:Int),())):ze N ((n:Nat):Int)=some ([dgt n 1000,dgt n 100,dgt n 10,dgt n 1],()):=by
 obtain⟨m,hm2⟩:∃ m,N=m+2:=⟨N-2,by omega⟩
 have hl:za N N=za N (m+2):=congrArg _ hm2
 have c0:decide (((n:Nat):Int)<100)=false:=by simp;omega
 unfold ze
 simp only[zh4 (show n<18446744073709551616 by omega)]
 simp only[hd,hl,Option.bind_some,c0,cond_false,cond_true,show wm (0:Int) (4:Int) 24=true from rfl,show((Int.toNat (4:Int))-0:Nat)=4 from rfl]
 unfold za zg
 simp (disch:=omega) only[zng,zh4,zdu,zdv,zdw,zdr,zds,zdt,zhw,zgJ,zdb,Int.toNat_natCast,xD,kE,zax,wO,cond_true,cond_false,Option.bind_some,
  show inb (0:Int) 4=true from rfl,show inb (1:Int) 4=true from rfl,show inb (2:Int) 4=true from rfl,show inb (3:Int) 4=true from rfl,show(0+Int.toNat (0:Int):Nat)=0 from rfl,show(0+Int.toNat (1:Int):Nat)=1 from rfl,show(0+Int.toNat (2:Int):Nat)=2 from rfl,show(0+Int.toNat (3:Int):Nat)=3 from rfl,show(0+0:Nat)=0 from rfl,show(0+4:Nat)=4 from rfl,show decide ((8:Int)<=((4:Nat):Int))=false from rfl,show decide ((4:Int)<=((4:Nat):Int))=true from rfl,show IntKind.wrap .i64 (((4:Nat):Int)-(1:Int))=(3:Int) from rfl,show IntKind.wrap .i64 (((4:Nat):Int)-(2:Int))=(2:Int) from rfl,show IntKind.wrap .i64 (((4:Nat):Int)-(3:Int))=(1:Int) from rfl,show IntKind.wrap .i64 (((4:Nat):Int)-(4:Int))=(0:Int) from rfl,show decide ((2:Int)<=(0:Int))=false from rfl,show decide ((0:Int)<(0:Int))=false from rfl]
 simp only[slice,List.set_cons_succ,List.set_cons_zero,List.drop_zero,List.take_succ_cons,List.take_zero,Nat.sub_zero,Option.some.injEq,Prod.mk.injEq,List.cons.injEq,and_true]
 refine⟨?_,?_,?_,?_⟩<;>exact wF (by omega)
theorem zt6(N n:Nat)(hN:10<=N)(h1:10000<=n)(h2:n<100000)(hm:n<4294967296)(hd:zf N ((n:Nat):Int)=some ((5:Int),())):ze N ((n:Nat):Int)=some ([dgt n 10000,dgt n 1000,dgt n 100,dgt n 10,dgt n 1],()):=by
 obtain⟨m,hm2⟩:∃ m,N=m+2:=⟨N-2,by omega⟩
 have hl:za N N=za N (m+2):=congrArg _ hm2
 have c0:decide (((n:Nat):Int)<100)=false:=by simp;omega
 unfold ze
 simp only[zh4 (show n<18446744073709551616 by omega)]
 simp only[hd,hl,Option.bind_some,c0,cond_false,cond_true,show wm (0:Int) (5:Int) 24=true from rfl,show((Int.toNat (5:Int))-0:Nat)=5 from rfl]
 unfold za zg
 simp (disch:=omega) only[zng,zh4,zdu,zdv,zdw,zdr,zds,zdt,zhw,zgJ,zdb,Int.toNat_natCast,xD,kE,zax,wO,cond_true,cond_false,Option.bind_some,
  show inb (0:Int) 5=true from rfl,show inb (1:Int) 5=true from rfl,show inb (2:Int) 5=true from rfl,show inb (3:Int) 5=true from rfl,show inb (4:Int) 5=true from rfl,show(0+Int.toNat (1:Int):Nat)=1 from rfl,show(0+Int.toNat (2:Int):Nat)=2 from rfl,show(0+Int.toNat (3:Int):Nat)=3 from rfl,show(0+Int.toNat (4:Int):Nat)=4 from rfl,show(0+0:Nat)=0 from rfl,show(0+5:Nat)=5 from rfl,show decide ((8:Int)<=((5:Nat):Int))=false from rfl,show decide ((4:Int)<=((5:Nat):Int))=true from rfl,show IntKind.wrap .i64 (((5:Nat):Int)-(1:Int))=(4:Int) from rfl,show IntKind.wrap .i64 (((5:Nat):Int)-(2:Int))=(3:Int) from rfl,show IntKind.wrap .i64 (((5:Nat):Int)-(3:Int))=(2:Int) from rfl,show IntKind.wrap .i64 (((5:Nat):Int)-(4:Int))=(1:Int) from rfl,show decide ((2:Int)<=(1:Int))=false from rfl,show decide ((0:Int)<(1:Int))=true from rfl]
 simp only[slice,List.set_cons_succ,List.set_cons_zero,List.drop_zero,List.take_succ_cons,List.take_zero,Nat.sub_zero,Option.some.injEq,Prod.mk.injEq,List.cons.injEq,and_true]
 refine⟨?_,?_,?_,?_,?_⟩<;>exact wF (by omega)
theorem zt7(N n:Nat)(hN:10<=N)(h1:100000<=n)(h2:n<1000000)(hm:n<4294967296)(hd:zf N ((n:Nat):Int)=some ((6:Int),())):ze N ((n:Nat):Int)=some ([dgt n 100000,dgt n 10000,dgt n 1000,dgt n 100,dgt n 10,dgt n 1],()):=by
 obtain⟨m,hm2⟩:∃ m,N=m+2:=⟨N-2,by omega⟩
 have hl:za N N=za N (m+2):=congrArg _ hm2
 have c0:decide (((n:Nat):Int)<100)=false:=by simp;omega
 unfold ze
 simp only[zh4 (show n<18446744073709551616 by omega)]
 simp only[hd,hl,Option.bind_some,c0,cond_false,cond_true,show wm (0:Int) (6:Int) 24=true from rfl,show((Int.toNat (6:Int))-0:Nat)=6 from rfl]
 unfold za zg
 simp (disch:=omega) only[zng,zh4,zdu,zdv,zdw,zdr,zds,zdt,zhw,zgJ,zdb,Int.toNat_natCast,xD,kE,zax,wO,cond_true,cond_false,Option.bind_some,
  show inb (0:Int) 6=true from rfl,show inb (1:Int) 6=true from rfl,show inb (2:Int) 6=true from rfl,show inb (3:Int) 6=true from rfl,show inb (4:Int) 6=true from rfl,show inb (5:Int) 6=true from rfl,show(0+Int.toNat (0:Int):Nat)=0 from rfl,show(0+Int.toNat (1:Int):Nat)=1 from rfl,show(0+Int.toNat (2:Int):Nat)=2 from rfl,show(0+Int.toNat (3:Int):Nat)=3 from rfl,show(0+Int.toNat (4:Int):Nat)=4 from rfl,show(0+Int.toNat (5:Int):Nat)=5 from rfl,show(0+0:Nat)=0 from rfl,show(0+6:Nat)=6 from rfl,show decide ((8:Int)<=((6:Nat):Int))=false from rfl,show decide ((4:Int)<=((6:Nat):Int))=true from rfl,show IntKind.wrap .i64 (((6:Nat):Int)-(1:Int))=(5:Int) from rfl,show IntKind.wrap .i64 (((6:Nat):Int)-(2:Int))=(4:Int) from rfl,show IntKind.wrap .i64 (((6:Nat):Int)-(3:Int))=(3:Int) from rfl,show IntKind.wrap .i64 (((6:Nat):Int)-(4:Int))=(2:Int) from rfl,show decide ((2:Int)<=(2:Int))=true from rfl,show IntKind.wrap .i64 ((2:Int)-(1:Int))=(1:Int) from rfl,show IntKind.wrap .i64 ((2:Int)-(2:Int))=(0:Int) from rfl,show decide ((0:Int)<(0:Int))=false from rfl]
 simp only[slice,List.set_cons_succ,List.set_cons_zero,List.drop_zero,List.take_succ_cons,List.take_zero,Nat.sub_zero,Option.some.injEq,Prod.mk.injEq,List.cons.injEq,and_true]
 refine⟨?_,?_,?_,?_,?_,?_⟩<;>exact wF (by omega)
theorem zt8(N n:Nat)(hN:10<=N)(h1:1000000<=n)(h2:n<10000000)(hm:n<4294967296)(hd:zf N ((n:Nat):Int)=some ((7:Int),())):ze N ((n:Nat):Int)=some ([dgt n 1000000,dgt n 100000,dgt n 10000,dgt n 1000,dgt n 100,dgt n 10,dgt n 1],()):=by
 obtain⟨m,hm2⟩:∃ m,N=m+2:=⟨N-2,by omega⟩
 have hl:za N N=za N (m+2):=congrArg _ hm2
 have c0:decide (((n:Nat):Int)<100)=false:=by simp;omega
 unfold ze
 simp only[zh4 (show n<18446744073709551616 by omega)]
 simp only[hd,hl,Option.bind_some,c0,cond_false,cond_true,show wm (0:Int) (7:Int) 24=true from rfl,show((Int.toNat (7:Int))-0:Nat)=7 from rfl]
 unfold za zg
 simp (disch:=omega) only[zng,zh4,zdu,zdv,zdw,zdr,zds,zdt,zhw,zgJ,zdb,Int.toNat_natCast,xD,kE,zax,wO,cond_true,cond_false,Option.bind_some,
  show inb (0:Int) 7=true from rfl,show inb (1:Int) 7=true from rfl,show inb (2:Int) 7=true from rfl,show inb (3:Int) 7=true from rfl,show inb (4:Int) 7=true from rfl,show inb (5:Int) 7=true from rfl,show inb (6:Int) 7=true from rfl,show(0+Int.toNat (1:Int):Nat)=1 from rfl,show(0+Int.toNat (2:Int):Nat)=2 from rfl,show(0+Int.toNat (3:Int):Nat)=3 from rfl,show(0+Int.toNat (4:Int):Nat)=4 from rfl,show(0+Int.toNat (5:Int):Nat)=5 from rfl,show(0+Int.toNat (6:Int):Nat)=6 from rfl,show(0+0:Nat)=0 from rfl,show(0+7:Nat)=7 from rfl,show decide ((8:Int)<=((7:Nat):Int))=false from rfl,show decide ((4:Int)<=((7:Nat):Int))=true from rfl,show IntKind.wrap .i64 (((7:Nat):Int)-(1:Int))=(6:Int) from rfl,show IntKind.wrap .i64 (((7:Nat):Int)-(2:Int))=(5:Int) from rfl,show IntKind.wrap .i64 (((7:Nat):Int)-(3:Int))=(4:Int) from rfl,show IntKind.wrap .i64 (((7:Nat):Int)-(4:Int))=(3:Int) from rfl,show decide ((2:Int)<=(3:Int))=true from rfl,show IntKind.wrap .i64 ((3:Int)-(1:Int))=(2:Int) from rfl,show IntKind.wrap .i64 ((3:Int)-(2:Int))=(1:Int) from rfl,show decide ((0:Int)<(1:Int))=true from rfl]
 simp only[slice,List.set_cons_succ,List.set_cons_zero,List.drop_zero,List.take_succ_cons,List.take_zero,Nat.sub_zero,Option.some.injEq,Prod.mk.injEq,List.cons.injEq,and_true]
 refine⟨?_,?_,?_,?_,?_,?_,?_⟩<;>exact wF (by omega)
theorem zt9(N n:Nat)(hN:10<=N)(h1:10000000<=n)(h2:n<100000000)(hm:n<4294967296)(hd:zf N ((n:Nat):Int)=some ((8:Int),())):ze N ((n:Nat):Int)=some ([dgt n 10000000,dgt n 1000000,dgt n 100000,dgt n 10000,dgt n 1000,dgt n 100,dgt n 10,dgt n 1],()):=by
 obtain⟨m,hm2⟩:∃ m,N=m+2:=⟨N-2,by omega⟩
 have hl:za N N=za N (m+2):=congrArg _ hm2
 have c0:decide (((n:Nat):Int)<100)=false:=by simp;omega
 unfold ze
 simp only[zh4 (show n<18446744073709551616 by omega)]
 simp only[hd,hl,Option.bind_some,c0,cond_false,cond_true,show wm (0:Int) (8:Int) 24=true from rfl,show((Int.toNat (8:Int))-0:Nat)=8 from rfl]
 unfold za zg
 unfold za zg
 simp (disch:=omega) only[zng,zh4,zdu,zdv,zdw,zdr,zds,zdt,zhw,zgJ,zdb,Int.toNat_natCast,xD,kE,zax,wO,cond_true,cond_false,Option.bind_some,
  show inb (0:Int) 8=true from rfl,show inb (1:Int) 8=true from rfl,show inb (2:Int) 8=true from rfl,show inb (3:Int) 8=true from rfl,show inb (4:Int) 8=true from rfl,show inb (5:Int) 8=true from rfl,show inb (6:Int) 8=true from rfl,show inb (7:Int) 8=true from rfl,show(0+Int.toNat (0:Int):Nat)=0 from rfl,show(0+Int.toNat (1:Int):Nat)=1 from rfl,show(0+Int.toNat (2:Int):Nat)=2 from rfl,show(0+Int.toNat (3:Int):Nat)=3 from rfl,show(0+Int.toNat (4:Int):Nat)=4 from rfl,show(0+Int.toNat (5:Int):Nat)=5 from rfl,show(0+Int.toNat (6:Int):Nat)=6 from rfl,show(0+Int.toNat (7:Int):Nat)=7 from rfl,show(0+0:Nat)=0 from rfl,show(0+8:Nat)=8 from rfl,show decide ((8:Int)<=((8:Nat):Int))=true from rfl,show IntKind.wrap .i64 (((8:Nat):Int)-(1:Int))=(7:Int) from rfl,show IntKind.wrap .i64 (((8:Nat):Int)-(2:Int))=(6:Int) from rfl,show IntKind.wrap .i64 (((8:Nat):Int)-(3:Int))=(5:Int) from rfl,show IntKind.wrap .i64 (((8:Nat):Int)-(4:Int))=(4:Int) from rfl,show IntKind.wrap .i64 (((8:Nat):Int)-(5:Int))=(3:Int) from rfl,show IntKind.wrap .i64 (((8:Nat):Int)-(6:Int))=(2:Int) from rfl,show IntKind.wrap .i64 (((8:Nat):Int)-(7:Int))=(1:Int) from rfl,show IntKind.wrap .i64 (((8:Nat):Int)-(8:Int))=(0:Int) from rfl,show decide ((8:Int)<=(0:Int))=false from rfl,show decide ((4:Int)<=(0:Int))=false from rfl,show decide ((2:Int)<=(0:Int))=false from rfl,show decide ((0:Int)<(0:Int))=false from rfl]
 simp only[slice,List.set_cons_succ,List.set_cons_zero,List.drop_zero,List.take_succ_cons,List.take_zero,Nat.sub_zero,Option.some.injEq,Prod.mk.injEq,List.cons.injEq,and_true]
 refine⟨?_,?_,?_,?_,?_,?_,?_,?_⟩<;>exact wF (by omega)
theorem zua(N n:Nat)(hN:10<=N)(h1:100000000<=n)(h2:n<1000000000)(hm:n<4294967296)(hd:zf N ((n:Nat):Int)=some ((9:Int),())):ze N ((n:Nat):Int)=some ([dgt n 100000000,dgt n 10000000,dgt n 1000000,dgt n 100000,dgt n 10000,dgt n 1000,dgt n 100,dgt n 10,dgt n 1],()):=by
 obtain⟨m,hm2⟩:∃ m,N=m+2:=⟨N-2,by omega⟩
 have hl:za N N=za N (m+2):=congrArg _ hm2
 have c0:decide (((n:Nat):Int)<100)=false:=by simp;omega
 unfold ze
 simp only[zh4 (show n<18446744073709551616 by omega)]
 simp only[hd,hl,Option.bind_some,c0,cond_false,cond_true,show wm (0:Int) (9:Int) 24=true from rfl,show((Int.toNat (9:Int))-0:Nat)=9 from rfl]
 unfold za zg
 unfold za zg
 simp (disch:=omega) only[zng,zh4,zdu,zdv,zdw,zdr,zds,zdt,zhw,zgJ,zdb,Int.toNat_natCast,xD,kE,zax,wO,cond_true,cond_false,Option.bind_some,
  show inb (0:Int) 9=true from rfl,show inb (1:Int) 9=true from rfl,show inb (2:Int) 9=true from rfl,show inb (3:Int) 9=true from rfl,show inb (4:Int) 9=true from rfl,show inb (5:Int) 9=true from rfl,show inb (6:Int) 9=true from rfl,show inb (7:Int) 9=true from rfl,show inb (8:Int) 9=true from rfl,show(0+Int.toNat (1:Int):Nat)=1 from rfl,show(0+Int.toNat (2:Int):Nat)=2 from rfl,show(0+Int.toNat (3:Int):Nat)=3 from rfl,show(0+Int.toNat (4:Int):Nat)=4 from rfl,show(0+Int.toNat (5:Int):Nat)=5 from rfl,show(0+Int.toNat (6:Int):Nat)=6 from rfl,show(0+Int.toNat (7:Int):Nat)=7 from rfl,show(0+Int.toNat (8:Int):Nat)=8 from rfl,show(0+0:Nat)=0 from rfl,show(0+9:Nat)=9 from rfl,show decide ((8:Int)<=((9:Nat):Int))=true from rfl,show IntKind.wrap .i64 (((9:Nat):Int)-(1:Int))=(8:Int) from rfl,show IntKind.wrap .i64 (((9:Nat):Int)-(2:Int))=(7:Int) from rfl,show IntKind.wrap .i64 (((9:Nat):Int)-(3:Int))=(6:Int) from rfl,show IntKind.wrap .i64 (((9:Nat):Int)-(4:Int))=(5:Int) from rfl,show IntKind.wrap .i64 (((9:Nat):Int)-(5:Int))=(4:Int) from rfl,show IntKind.wrap .i64 (((9:Nat):Int)-(6:Int))=(3:Int) from rfl,show IntKind.wrap .i64 (((9:Nat):Int)-(7:Int))=(2:Int) from rfl,show IntKind.wrap .i64 (((9:Nat):Int)-(8:Int))=(1:Int) from rfl,show decide ((8:Int)<=(1:Int))=false from rfl,show decide ((4:Int)<=(1:Int))=false from rfl,show decide ((2:Int)<=(1:Int))=false from rfl,show decide ((0:Int)<(1:Int))=true from rfl]
 simp only[slice,List.set_cons_succ,List.set_cons_zero,List.drop_zero,List.take_succ_cons,List.take_zero,Nat.sub_zero,Option.some.injEq,Prod.mk.injEq,List.cons.injEq,and_true]
 refine⟨?_,?_,?_,?_,?_,?_,?_,?_,?_⟩<;>exact wF (by omega)
theorem zr8(N n:Nat)(hN:10<=N)(h1:1000000000<=n)(h2:n<10000000000)(hm:n<4294967296)(hd:zf N ((n:Nat):Int)=some ((10:Int),())):ze N ((n:Nat):Int)=some ([dgt n 1000000000,dgt n 100000000,dgt n 10000000,dgt n 1000000,dgt n 100000,dgt n 10000,dgt n 1000,dgt n 100,dgt n 10,dgt n 1],()):=by
 obtain⟨m,hm2⟩:∃ m,N=m+2:=⟨N-2,by omega⟩
 have hl:za N N=za N (m+2):=congrArg _ hm2
 have c0:decide (((n:Nat):Int)<100)=false:=by simp;omega
 unfold ze
 simp only[zh4 (show n<18446744073709551616 by omega)]
 simp only[hd,hl,Option.bind_some,c0,cond_false,cond_true,show wm (0:Int) (10:Int) 24=true from rfl,show((Int.toNat (10:Int))-0:Nat)=10 from rfl]
 unfold za zg
 unfold za zg
 simp (disch:=omega) only[zng,zh4,zdu,zdv,zdw,zdr,zds,zdt,zhw,zgJ,zdb,Int.toNat_natCast,xD,kE,zax,wO,cond_true,cond_false,Option.bind_some,
  show inb (0:Int) 10=true from rfl,show inb (1:Int) 10=true from rfl,show inb (2:Int) 10=true from rfl,show inb (3:Int) 10=true from rfl,show inb (4:Int) 10=true from rfl,show inb (5:Int) 10=true from rfl,show inb (6:Int) 10=true from rfl,show inb (7:Int) 10=true from rfl,show inb (8:Int) 10=true from rfl,show inb (9:Int) 10=true from rfl,show(0+Int.toNat (0:Int):Nat)=0 from rfl,show(0+Int.toNat (1:Int):Nat)=1 from rfl,show(0+Int.toNat (2:Int):Nat)=2 from rfl,show(0+Int.toNat (3:Int):Nat)=3 from rfl,show(0+Int.toNat (4:Int):Nat)=4 from rfl,show(0+Int.toNat (5:Int):Nat)=5 from rfl,show(0+Int.toNat (6:Int):Nat)=6 from rfl,show(0+Int.toNat (7:Int):Nat)=7 from rfl,show(0+Int.toNat (8:Int):Nat)=8 from rfl,show(0+Int.toNat (9:Int):Nat)=9 from rfl,show(0+0:Nat)=0 from rfl,show(0+10:Nat)=10 from rfl,show decide ((8:Int)<=((10:Nat):Int))=true from rfl,show IntKind.wrap .i64 (((10:Nat):Int)-(1:Int))=(9:Int) from rfl,show IntKind.wrap .i64 (((10:Nat):Int)-(2:Int))=(8:Int) from rfl,show IntKind.wrap .i64 (((10:Nat):Int)-(3:Int))=(7:Int) from rfl,show IntKind.wrap .i64 (((10:Nat):Int)-(4:Int))=(6:Int) from rfl,show IntKind.wrap .i64 (((10:Nat):Int)-(5:Int))=(5:Int) from rfl,show IntKind.wrap .i64 (((10:Nat):Int)-(6:Int))=(4:Int) from rfl,show IntKind.wrap .i64 (((10:Nat):Int)-(7:Int))=(3:Int) from rfl,show IntKind.wrap .i64 (((10:Nat):Int)-(8:Int))=(2:Int) from rfl,show decide ((8:Int)<=(2:Int))=false from rfl,show decide ((4:Int)<=(2:Int))=false from rfl,show decide ((2:Int)<=(2:Int))=true from rfl,show IntKind.wrap .i64 ((2:Int)-(1:Int))=(1:Int) from rfl,show IntKind.wrap .i64 ((2:Int)-(2:Int))=(0:Int) from rfl,show decide ((0:Int)<(0:Int))=false from rfl]
 simp only[slice,List.set_cons_succ,List.set_cons_zero,List.drop_zero,List.take_succ_cons,List.take_zero,Nat.sub_zero,Option.some.injEq,Prod.mk.injEq,List.cons.injEq,and_true]
 refine⟨?_,?_,?_,?_,?_,?_,?_,?_,?_,?_⟩<;>exact wF (by omega)
theorem zls(n m:Nat):Int.fdiv ((n:Nat):Int) ((m:Nat):Int)=((n/m:Nat):Int):=by
 rw[Int.fdiv_eq_ediv_of_nonneg _ (by omega)];rfl
theorem p8:((2:Int) ^ (min (Int.toNat (8:Int)) (IntKind.bits .u64)))=((256:Nat):Int):=rfl
theorem p16:((2:Int) ^ (min (Int.toNat (16:Int)) (IntKind.bits .u64)))=((65536:Nat):Int):=rfl
theorem p18:((2:Int) ^ (min (Int.toNat (18:Int)) (IntKind.bits .i64)))=((262144:Nat):Int):=rfl
def tL(k:Nat):Nat:=(nth .u8 znd k).toNat
theorem zmY{k:Nat}(h:k<256)(h0:0<k):2 ^ (tL k-1)<=k/\k<2 ^ tL k/\1<=tL k/\tL k<=8:=by
 have key:((List.range 256).all fun k=>k==0||(Nat.ble (2 ^ (tL k-1)) k&&(Nat.blt k (2 ^ tL k)&&(Nat.ble 1 (tL k)&&Nat.ble (tL k) 8))))=true:=by kernel_rfl
 rw[List.all_eq_true] at key
 have:=key k (List.mem_range.2 h)
 simp only[Bool.or_eq_true,Bool.and_eq_true,beq_iff_eq,Nat.blt_eq] at this
 rcases this with h1|⟨h1,h2,h3,h4⟩
 ·omega
 ·exact⟨Nat.le_of_ble_eq_true h1,h2,Nat.le_of_ble_eq_true h3,Nat.le_of_ble_eq_true h4⟩
theorem u8n{k:Nat}(h:k<256):UInt8.toNat (zcw ((k:Nat):Int))=k:=by
 rw[wO h,UInt8.toNat_ofNat'];omega
theorem zsj(N n:Nat)(h0:0<n)(h:n<4294967296):∃ L:Nat,1<=L/\L<=32/\2 ^ (L-1)<=n/\n<2 ^ L/\qU N ((n:Nat):Int)=some ((L:Int),()):=by
 have c1:decide ((4294967296:Int)<=((n:Nat):Int))=false:=by simp;omega
 unfold qU
 simp only[c1,cond_false,p8,p16,zls]
 have fin:∀ (b k:Nat),k<256->0<k->b<=24->2 ^ b*k<=n->n<2 ^ b*(k+1)->∃ L:Nat,1<=L/\L<=32/\2 ^ (L-1)<=n/\n<2 ^ L/\(some (((b+tL k:Nat):Int),()):Option (Int×Unit))=some ((L:Int),()):=by
  intro b k hk hk0 hb h1 h2
  obtain⟨q1,q2,q3,q4⟩:=zmY hk hk0
  refine⟨b+tL k,by omega,by omega,?_,?_,rfl⟩
  ·rw[show b+tL k-1=b+(tL k-1) by omega,Nat.pow_add]
   exact Nat.le_trans (Nat.mul_le_mul_left _ q1) h1
  ·rw[Nat.pow_add]
   exact Nat.lt_of_lt_of_le h2 (Nat.mul_le_mul_left _ q2)
 have val:∀ (b k:Nat),k<256->b<=24->0<k->IntKind.wrap .i64 (((b:Nat):Int)+IntKind.wrap .i64 ((UInt8.toNat (nth .u8 znd (Int.toNat ((UInt8.toNat (zcw ((k:Nat):Int)):Nat):Int))):Nat):Int))=((b+tL k:Nat):Int):=by
  intro b k hk hb hk0
  have:=zmY hk hk0
  rw[u8n hk,Int.toNat_natCast]
  show IntKind.wrap .i64 (((b:Nat):Int)+IntKind.wrap .i64 ((tL k:Nat):Int))=_
  rw[wri (x:=((tL k:Nat):Int)) (by omega) (by omega),wri (by omega) (by omega)];omega
 by_cases a1:65536<=n
 ·have c2:decide ((65536:Int)<=((n:Nat):Int))=true:=by simp;omega
  simp only[c2,cond_true]
  by_cases a2:256<=n/65536
  ·have c3:decide ((256:Int)<=((n/65536:Nat):Int))=true:=by simp only[decide_eq_true_eq];omega
   have hk:n/65536/256<256:=by omega
   simp only[c3,cond_true]
   rw[u8n hk,xD hk,cond_true,<- u8n hk]
   have:=val 24 (n/65536/256) hk (by omega) (by omega)
   rw[u8n hk] at this |-
   rw[show((24:Nat):Int)=(24:Int) from rfl] at this
   rw[this]
   exact fin 24 _ hk (by omega) (by omega) (by omega) (by omega)
  ·have c3:decide ((256:Int)<=((n/65536:Nat):Int))=false:=by simp only[decide_eq_false_iff_not];omega
   have hk:n/65536<256:=by omega
   simp only[c3,cond_false]
   rw[u8n hk,xD hk,cond_true]
   have:=val 16 (n/65536) hk (by omega) (by omega)
   rw[u8n hk,show((16:Nat):Int)=(16:Int) from rfl] at this
   rw[this]
   exact fin 16 _ hk (by omega) (by omega) (by omega) (by omega)
 ·have c2:decide ((65536:Int)<=((n:Nat):Int))=false:=by simp;omega
  simp only[c2,cond_false]
  by_cases a2:256<=n
  ·have c3:decide ((256:Int)<=((n:Nat):Int))=true:=by simp;omega
   have hk:n/256<256:=by omega
   simp only[c3,cond_true]
   rw[u8n hk,xD hk,cond_true]
   have:=val 8 (n/256) hk (by omega) (by omega)
   rw[u8n hk,show((8:Nat):Int)=(8:Int) from rfl] at this
   rw[this]
   exact fin 8 _ hk (by omega) (by omega) (by omega) (by omega)
  ·have c3:decide ((256:Int)<=((n:Nat):Int))=false:=by simp;omega
   have hk:n<256:=by omega
   simp only[c3,cond_false]
   rw[u8n hk,xD hk,cond_true]
   have:=val 0 n hk (by omega) (by omega)
   rw[u8n hk,show((0:Nat):Int)=(0:Int) from rfl] at this
   rw[this]
   exact fin 0 _ hk (by omega) (by omega) (by omega) (by omega)
def zss:List Int:=[1,10,100,1000,10000,100000,1000000,10000000,100000000,1000000000,10000000000,100000000000,1000000000000,10000000000000,100000000000000,1000000000000000,10000000000000000,100000000000000000,1000000000000000000,10000000000000000000]
def pw(k:Nat):Int:=nth (.int .u64) zss k
theorem digits(N n:Nat)(h0:0<n)(h:n<4294967296):∃ L:Nat,1<=L/\L<=32/\2 ^ (L-1)<=n/\n<2 ^ L/\zf N ((n:Nat):Int)=some (((L*78913/262144+(if pw (L*78913/262144)<=(n:Int) then 1 else 0):Nat):Int),()):=by
 obtain⟨L,h1,h2,h3,h4,h5⟩:=zsj N n h0 h
 refine⟨L,h1,h2,h3,h4,?_⟩
 unfold zf jq jo
 simp only[h5,Option.bind_some,p18]
 rw[wri (by omega) (by omega),show((L:Nat):Int)*78913=((L*78913:Nat):Int) from rfl,zls]
 have ht:L*78913/262144<20:=by omega
 simp only[xD ht,Bool.and_self,cond_true,Int.toNat_natCast]
 show Option.bind (cond (decide (pw (L*78913/262144)<=(n:Int))) (some ((1:Int),())) (some ((0:Int),()))) _=_
 by_cases hc:pw (L*78913/262144)<=(n:Int)
 ·rw[decide_eq_true hc,if_pos hc]
  simp only[cond_true,Option.bind_some]
  rw[wri (by omega) (by omega)];rfl
 ·rw[decide_eq_false hc,if_neg hc]
  simp only[cond_false,Option.bind_some]
  rw[wri (by omega) (by omega)];rfl
theorem zoO(N n d:Nat)(h0:100<=n)(h:n<4294967296)(h1:3<=d)(h2:d<=10)(h3:10 ^ (d-1)<=n)(h4:n<10 ^ d):zf N ((n:Nat):Int)=some (((d:Nat):Int),()):=by
 obtain⟨L,q1,q2,q3,q4,q5⟩:=digits N n (by omega) h
 rw[q5]
 clear q5
 have hL:L=1\/L=2\/L=3\/L=4\/L=5\/L=6\/L=7\/L=8\/L=9\/L=10\/L=11\/L=12\/L=13\/L=14\/L=15\/L=16\/L=17\/L=18\/L=19\/L=20\/L=21\/L=22\/L=23\/L=24\/L=25\/L=26\/L=27\/L=28\/L=29\/L=30\/L=31\/L=32:=by omega
 have hd:d=3\/d=4\/d=5\/d=6\/d=7\/d=8\/d=9\/d=10:=by omega
 have fin:L*78913/262144+(if pw (L*78913/262144)<=(n:Int) then 1 else 0)=d:=by
  rcases hd with rfl|rfl|rfl|rfl|rfl|rfl|rfl|rfl<;>simp only[Nat.reduceSub,Nat.reducePow] at h3 h4
  all_goals
   rcases hL with rfl|rfl|rfl|rfl|rfl|rfl|rfl|rfl|rfl|rfl|rfl|rfl|rfl|rfl|rfl|rfl|rfl|rfl|rfl|rfl|rfl|rfl|rfl|rfl|rfl|rfl|rfl|rfl|rfl|rfl|rfl|rfl<;>simp only[Nat.reduceSub,Nat.reducePow] at q3 q4<;>first
    |(exfalso;omega;done)
    |(simp only[Nat.reduceMul,Nat.reduceDiv,show pw 2=100 from rfl,show pw 3=1000 from rfl,show pw 4=10000 from rfl,show pw 5=100000 from rfl,show pw 6=1000000 from rfl,show pw 7=10000000 from rfl,show pw 8=100000000 from rfl,show pw 9=1000000000 from rfl];split<;>omega)
 rw[fin]
def zR:Nat->Nat->List UInt8
 |0,_=>[]
 |f+1,n=>if n<10 then[UInt8.ofNat (48+n)] else zR f (n/10)++[UInt8.ofNat (48+n % 10)]
def dec(n:Nat):List UInt8:=zR 10 n
theorem ztX(n:Nat)(h1:100<=n)(h2:n<1000):dec n=[dgt n 100,dgt n 10,dgt n 1]:=by
 unfold dec
 rw[show zR 10 (n)=zR 9 (n/10)++[UInt8.ofNat (48+n % 10)] from if_neg (by omega)]
 rw[show zR 9 (n/10)=zR 8 (n/10/10)++[UInt8.ofNat (48+n/10 % 10)] from if_neg (by omega)]
 rw[show zR 8 (n/10/10)=[UInt8.ofNat (48+n/10/10)] from if_pos (by omega)]
 simp only[List.cons_append,List.nil_append,List.cons.injEq,and_true]
 refine⟨?_,?_,?_⟩<;>exact wF (by omega)
theorem ztY(n:Nat)(h1:1000<=n)(h2:n<10000):dec n=[dgt n 1000,dgt n 100,dgt n 10,dgt n 1]:=by
 unfold dec
 rw[show zR 10 (n)=zR 9 (n/10)++[UInt8.ofNat (48+n % 10)] from if_neg (by omega)]
 rw[show zR 9 (n/10)=zR 8 (n/10/10)++[UInt8.ofNat (48+n/10 % 10)] from if_neg (by omega)]
 rw[show zR 8 (n/10/10)=zR 7 (n/10/10/10)++[UInt8.ofNat (48+n/10/10 % 10)] from if_neg (by omega)]
 rw[show zR 7 (n/10/10/10)=[UInt8.ofNat (48+n/10/10/10)] from if_pos (by omega)]
 simp only[List.cons_append,List.nil_append,List.cons.injEq,and_true]
 refine⟨?_,?_,?_,?_⟩<;>exact wF (by omega)
theorem ztZ(n:Nat)(h1:10000<=n)(h2:n<100000):dec n=[dgt n 10000,dgt n 1000,dgt n 100,dgt n 10,dgt n 1]:=by
 unfold dec
 rw[show zR 10 (n)=zR 9 (n/10)++[UInt8.ofNat (48+n % 10)] from if_neg (by omega)]
 rw[show zR 9 (n/10)=zR 8 (n/10/10)++[UInt8.ofNat (48+n/10 % 10)] from if_neg (by omega)]
 rw[show zR 8 (n/10/10)=zR 7 (n/10/10/10)++[UInt8.ofNat (48+n/10/10 % 10)] from if_neg (by omega)]
 rw[show zR 7 (n/10/10/10)=zR 6 (n/10/10/10/10)++[UInt8.ofNat (48+n/10/10/10 % 10)] from if_neg (by omega)]
 rw[show zR 6 (n/10/10/10/10)=[UInt8.ofNat (48+n/10/10/10/10)] from if_pos (by omega)]
 simp only[List.cons_append,List.nil_append,List.cons.injEq,and_true]
 refine⟨?_,?_,?_,?_,?_⟩<;>exact wF (by omega)
theorem zt0(n:Nat)(h1:100000<=n)(h2:n<1000000):dec n=[dgt n 100000,dgt n 10000,dgt n 1000,dgt n 100,dgt n 10,dgt n 1]:=by
 unfold dec
 rw[show zR 10 (n)=zR 9 (n/10)++[UInt8.ofNat (48+n % 10)] from if_neg (by omega)]
 rw[show zR 9 (n/10)=zR 8 (n/10/10)++[UInt8.ofNat (48+n/10 % 10)] from if_neg (by omega)]
 rw[show zR 8 (n/10/10)=zR 7 (n/10/10/10)++[UInt8.ofNat (48+n/10/10 % 10)] from if_neg (by omega)]
 rw[show zR 7 (n/10/10/10)=zR 6 (n/10/10/10/10)++[UInt8.ofNat (48+n/10/10/10 % 10)] from if_neg (by omega)]
 rw[show zR 6 (n/10/10/10/10)=zR 5 (n/10/10/10/10/10)++[UInt8.ofNat (48+n/10/10/10/10 % 10)] from if_neg (by omega)]
 rw[show zR 5 (n/10/10/10/10/10)=[UInt8.ofNat (48+n/10/10/10/10/10)] from if_pos (by omega)]
 simp only[List.cons_append,List.nil_append,List.cons.injEq,and_true]
 refine⟨?_,?_,?_,?_,?_,?_⟩<;>exact wF (by omega)
theorem zt1(n:Nat)(h1:1000000<=n)(h2:n<10000000):dec n=[dgt n 1000000,dgt n 100000,dgt n 10000,dgt n 1000,dgt n 100,dgt n 10,dgt n 1]:=by
 unfold dec
 rw[show zR 10 (n)=zR 9 (n/10)++[UInt8.ofNat (48+n % 10)] from if_neg (by omega)]
 rw[show zR 9 (n/10)=zR 8 (n/10/10)++[UInt8.ofNat (48+n/10 % 10)] from if_neg (by omega)]
 rw[show zR 8 (n/10/10)=zR 7 (n/10/10/10)++[UInt8.ofNat (48+n/10/10 % 10)] from if_neg (by omega)]
 rw[show zR 7 (n/10/10/10)=zR 6 (n/10/10/10/10)++[UInt8.ofNat (48+n/10/10/10 % 10)] from if_neg (by omega)]
 rw[show zR 6 (n/10/10/10/10)=zR 5 (n/10/10/10/10/10)++[UInt8.ofNat (48+n/10/10/10/10 % 10)] from if_neg (by omega)]
 rw[show zR 5 (n/10/10/10/10/10)=zR 4 (n/10/10/10/10/10/10)++[UInt8.ofNat (48+n/10/10/10/10/10 % 10)] from if_neg (by omega)]
 rw[show zR 4 (n/10/10/10/10/10/10)=[UInt8.ofNat (48+n/10/10/10/10/10/10)] from if_pos (by omega)]
 simp only[List.cons_append,List.nil_append,List.cons.injEq,and_true]
 refine⟨?_,?_,?_,?_,?_,?_,?_⟩<;>exact wF (by omega)
theorem zt2(n:Nat)(h1:10000000<=n)(h2:n<100000000):dec n=[dgt n 10000000,dgt n 1000000,dgt n 100000,dgt n 10000,dgt n 1000,dgt n 100,dgt n 10,dgt n 1]:=by
 unfold dec
 rw[show zR 10 (n)=zR 9 (n/10)++[UInt8.ofNat (48+n % 10)] from if_neg (by omega)]
 rw[show zR 9 (n/10)=zR 8 (n/10/10)++[UInt8.ofNat (48+n/10 % 10)] from if_neg (by omega)]
 rw[show zR 8 (n/10/10)=zR 7 (n/10/10/10)++[UInt8.ofNat (48+n/10/10 % 10)] from if_neg (by omega)]
 rw[show zR 7 (n/10/10/10)=zR 6 (n/10/10/10/10)++[UInt8.ofNat (48+n/10/10/10 % 10)] from if_neg (by omega)]
 rw[show zR 6 (n/10/10/10/10)=zR 5 (n/10/10/10/10/10)++[UInt8.ofNat (48+n/10/10/10/10 % 10)] from if_neg (by omega)]
 rw[show zR 5 (n/10/10/10/10/10)=zR 4 (n/10/10/10/10/10/10)++[UInt8.ofNat (48+n/10/10/10/10/10 % 10)] from if_neg (by omega)]
 rw[show zR 4 (n/10/10/10/10/10/10)=zR 3 (n/10/10/10/10/10/10/10)++[UInt8.ofNat (48+n/10/10/10/10/10/10 % 10)] from if_neg (by omega)]
 rw[show zR 3 (n/10/10/10/10/10/10/10)=[UInt8.ofNat (48+n/10/10/10/10/10/10/10)] from if_pos (by omega)]
 simp only[List.cons_append,List.nil_append,List.cons.injEq,and_true]
 refine⟨?_,?_,?_,?_,?_,?_,?_,?_⟩<;>exact wF (by omega)
theorem zt3(n:Nat)(h1:100000000<=n)(h2:n<1000000000):dec n=[dgt n 100000000,dgt n 10000000,dgt n 1000000,dgt n 100000,dgt n 10000,dgt n 1000,dgt n 100,dgt n 10,dgt n 1]:=by
 unfold dec
 rw[show zR 10 (n)=zR 9 (n/10)++[UInt8.ofNat (48+n % 10)] from if_neg (by omega)]
 rw[show zR 9 (n/10)=zR 8 (n/10/10)++[UInt8.ofNat (48+n/10 % 10)] from if_neg (by omega)]
 rw[show zR 8 (n/10/10)=zR 7 (n/10/10/10)++[UInt8.ofNat (48+n/10/10 % 10)] from if_neg (by omega)]
 rw[show zR 7 (n/10/10/10)=zR 6 (n/10/10/10/10)++[UInt8.ofNat (48+n/10/10/10 % 10)] from if_neg (by omega)]
 rw[show zR 6 (n/10/10/10/10)=zR 5 (n/10/10/10/10/10)++[UInt8.ofNat (48+n/10/10/10/10 % 10)] from if_neg (by omega)]
 rw[show zR 5 (n/10/10/10/10/10)=zR 4 (n/10/10/10/10/10/10)++[UInt8.ofNat (48+n/10/10/10/10/10 % 10)] from if_neg (by omega)]
 rw[show zR 4 (n/10/10/10/10/10/10)=zR 3 (n/10/10/10/10/10/10/10)++[UInt8.ofNat (48+n/10/10/10/10/10/10 % 10)] from if_neg (by omega)]
 rw[show zR 3 (n/10/10/10/10/10/10/10)=zR 2 (n/10/10/10/10/10/10/10/10)++[UInt8.ofNat (48+n/10/10/10/10/10/10/10 % 10)] from if_neg (by omega)]
 rw[show zR 2 (n/10/10/10/10/10/10/10/10)=[UInt8.ofNat (48+n/10/10/10/10/10/10/10/10)] from if_pos (by omega)]
 simp only[List.cons_append,List.nil_append,List.cons.injEq,and_true]
 refine⟨?_,?_,?_,?_,?_,?_,?_,?_,?_⟩<;>exact wF (by omega)
theorem zr7(n:Nat)(h1:1000000000<=n)(h2:n<10000000000):dec n=[dgt n 1000000000,dgt n 100000000,dgt n 10000000,dgt n 1000000,dgt n 100000,dgt n 10000,dgt n 1000,dgt n 100,dgt n 10,dgt n 1]:=by
 unfold dec
 rw[show zR 10 (n)=zR 9 (n/10)++[UInt8.ofNat (48+n % 10)] from if_neg (by omega)]
 rw[show zR 9 (n/10)=zR 8 (n/10/10)++[UInt8.ofNat (48+n/10 % 10)] from if_neg (by omega)]
 rw[show zR 8 (n/10/10)=zR 7 (n/10/10/10)++[UInt8.ofNat (48+n/10/10 % 10)] from if_neg (by omega)]
 rw[show zR 7 (n/10/10/10)=zR 6 (n/10/10/10/10)++[UInt8.ofNat (48+n/10/10/10 % 10)] from if_neg (by omega)]
 rw[show zR 6 (n/10/10/10/10)=zR 5 (n/10/10/10/10/10)++[UInt8.ofNat (48+n/10/10/10/10 % 10)] from if_neg (by omega)]
 rw[show zR 5 (n/10/10/10/10/10)=zR 4 (n/10/10/10/10/10/10)++[UInt8.ofNat (48+n/10/10/10/10/10 % 10)] from if_neg (by omega)]
 rw[show zR 4 (n/10/10/10/10/10/10)=zR 3 (n/10/10/10/10/10/10/10)++[UInt8.ofNat (48+n/10/10/10/10/10/10 % 10)] from if_neg (by omega)]
 rw[show zR 3 (n/10/10/10/10/10/10/10)=zR 2 (n/10/10/10/10/10/10/10/10)++[UInt8.ofNat (48+n/10/10/10/10/10/10/10 % 10)] from if_neg (by omega)]
 rw[show zR 2 (n/10/10/10/10/10/10/10/10)=zR 1 (n/10/10/10/10/10/10/10/10/10)++[UInt8.ofNat (48+n/10/10/10/10/10/10/10/10 % 10)] from if_neg (by omega)]
 rw[show zR 1 (n/10/10/10/10/10/10/10/10/10)=[UInt8.ofNat (48+n/10/10/10/10/10/10/10/10/10)] from if_pos (by omega)]
 simp only[List.cons_append,List.nil_append,List.cons.injEq,and_true]
 refine⟨?_,?_,?_,?_,?_,?_,?_,?_,?_,?_⟩<;>exact wF (by omega)
theorem zmL(N:Nat){n:Nat}(h:n<100):jG N ((n:Nat):Int)=some (dec n,()):=by
 have key:((List.range 100).all fun n=>decide (jG 0 ((n:Nat):Int)=some (dec n,())))=true:=by kernel_rfl
 rw[List.all_eq_true] at key
 exact of_decide_eq_true (key n (List.mem_range.2 h))
theorem zpt(N n:Nat)(hN:10<=N)(h:n<4294967296):ze N ((n:Nat):Int)=some (dec n,()):=by
 by_cases h0:n<100
 ·have c0:decide (((n:Nat):Int)<100)=true:=by simp;omega
  unfold ze
  simp only[zh4 (show n<18446744073709551616 by omega),c0,cond_true]
  rw[wri (by omega) (by omega),zmL N h0];rfl
 ·rcases(show(100<=n/\n<1000)\/(1000<=n/\n<10000)\/(10000<=n/\n<100000)\/(100000<=n/\n<1000000)\/(1000000<=n/\n<10000000)\/(10000000<=n/\n<100000000)\/(100000000<=n/\n<1000000000)\/(1000000000<=n/\n<10000000000) by omega) with⟨h1,h2⟩|⟨h1,h2⟩|⟨h1,h2⟩|⟨h1,h2⟩|⟨h1,h2⟩|⟨h1,h2⟩|⟨h1,h2⟩|⟨h1,h2⟩
  ·rw[ztX n h1 h2];exact zt4 N n hN h1 h2 h (zoO N n 3 (by omega) h (by omega) (by omega) h1 h2)
  ·rw[ztY n h1 h2];exact zt5 N n hN h1 h2 h (zoO N n 4 (by omega) h (by omega) (by omega) h1 h2)
  ·rw[ztZ n h1 h2];exact zt6 N n hN h1 h2 h (zoO N n 5 (by omega) h (by omega) (by omega) h1 h2)
  ·rw[zt0 n h1 h2];exact zt7 N n hN h1 h2 h (zoO N n 6 (by omega) h (by omega) (by omega) h1 h2)
  ·rw[zt1 n h1 h2];exact zt8 N n hN h1 h2 h (zoO N n 7 (by omega) h (by omega) (by omega) h1 h2)
  ·rw[zt2 n h1 h2];exact zt9 N n hN h1 h2 h (zoO N n 8 (by omega) h (by omega) (by omega) h1 h2)
  ·rw[zt3 n h1 h2];exact zua N n hN h1 h2 h (zoO N n 9 (by omega) h (by omega) (by omega) h1 h2)
  ·rw[zr7 n h1 h2];exact zr8 N n hN h1 h2 h (zoO N n 10 (by omega) h (by omega) (by omega) h1 h2)
theorem zjt(N n:Nat)(hN:10<=N)(h:n<4294967296):ze N ((n:Nat):Int)=some (dec n,()):=by
 exact zpt N n hN h
theorem zjs:∀ f n,(zR f n).length<=f
 |0,n=>by simp [zR]
 |f+1,n=>by
  unfold zR
  split
  ·simp
  ·have:=zjs f (n/10);simp;omega
def zpa:Nat->List UInt8->Option Nat
 |acc,[]=>some acc
 |acc,c::r=>if 48<=c.toNat/\c.toNat<=57 then zpa (acc*10+(c.toNat-48)) r else none
theorem zm5:∀ (l:List UInt8) (acc v:Nat),zpa acc l=some v->acc<=v
 | [],acc,v,h=>by cases h;omega
 |c::r,acc,v,h=>by
  unfold zpa at h
  split at h
  ·have:=zm5 r _ v h;omega
  ·cases h
theorem zpU(M:Nat)(hM:M<1844674407370955162):∀ (l:List UInt8) (acc v:Nat),acc<=M->zpa acc l=some v->v<=M->Go.Lib.parseUintM M acc l=.ok v
 | [],acc,v,ha,h,hv=>by cases h;rfl
 |c::r,acc,v,ha,h,hv=>by
  unfold zpa at h
  split at h
  ·rename_i hc
   have:=zm5 r _ v h
   unfold Go.Lib.parseUintM
   rw[if_pos hc,if_neg (by omega),if_neg (by omega)]
   exact zpU M hM r _ v (by omega) h hv
  ·cases h
theorem zoS(M:Nat):∀ (l:List UInt8) (acc v:Nat),acc<=M->Go.Lib.parseUintM M acc l=.ok v->zpa acc l=some v/\v<=M
 | [],acc,v,ha,h=>by cases h;exact⟨rfl,ha⟩
 |c::r,acc,v,ha,h=>by
  unfold Go.Lib.parseUintM at h
  split at h
  ·rename_i hc
   split at h
   ·cases h
   ·split at h
    ·cases h
    ·unfold zpa
     rw[if_pos hc]
     exact zoS M r _ v (by omega) h
  ·cases h
def zjH(s:List UInt8):Option Nat:=match zpa 0 s with
 |some v=>if v<=4294967295/\dec v=s then some v else none
 |none=>none
def zso(s:List UInt8):Option (Int×Bool×Unit):=some (match zjH s with
 |some v=>(((v:Nat):Int),true,())
 |none=>(0,false,()))
theorem zpP{s:List UInt8}{v:Nat}(h:zjH s=some v):v<=4294967295:=by
 unfold zjH at h
 split at h
 ·split at h
  ·rename_i hc;cases h;exact hc.1
  ·cases h
 ·cases h
theorem zlm(n:Nat):(dec n).length<=10:=zjs 10 n
theorem znP(N:Nat)(hN:10<=N)(s:List UInt8)(hs:s.length<=100000):wJ N s=zso s:=by
 unfold wJ zso
 have hb:Nat.ble (List.length s) zj9=true:=by rw[Nat.ble_eq];unfold zj9;omega
 simp only[hb,cond_true]
 have bad:zjH s=none->some ((0:Int),false,())=some (match zjH s with
  |some v=>(((v:Nat):Int),true,())
  |none=>(0,false,())):=fun h=>by rw[h]
 rcases hp:Go.Lib.parseUintB 32 s with u|_|_
 ·unfold Go.Lib.parseUintB at hp
  split at hp
  ·cases hp
  ·obtain⟨h1,h2⟩:=zoS _ s 0 u (by omega) hp
   have h2:u<=4294967295:=h2
   simp only[zme]
   rw[zng (by omega),zjt N u hN (by omega)]
   simp only[Option.bind_some]
   unfold zjH
   simp only[h1]
   cases hd:dec u != s with
   |true=>
    have hd':¬ dec u=s:=by simpa using hd
    rw[if_neg (fun h=>hd' h.2)];rfl
   |false=>
    have hd':dec u=s:=by simpa using hd
    rw[if_pos ⟨h2,hd'⟩];rfl
 ·refine bad ?_
  unfold zjH
  split
  ·rename_i v hv
   rw[if_neg]
   intro⟨h1,h2⟩
   unfold Go.Lib.parseUintB at hp
   split at hp
   ·rename_i he
    subst he
    have:(dec v).length=0:=by rw[h2];rfl
    unfold dec zR at this
    split at this<;>simp at this
   ·rw[zpU _ (by decide) s 0 v (by omega) hv h1] at hp;cases hp
  ·rfl
 ·refine bad ?_
  unfold zjH
  split
  ·rename_i v hv
   rw[if_neg]
   intro⟨h1,h2⟩
   unfold Go.Lib.parseUintB at hp
   split at hp
   ·cases hp
   ·rw[zpU _ (by decide) s 0 v (by omega) hv h1] at hp;cases hp
  ·rfl
theorem zdY{α:Type}(l:List α)(a:Nat):zem l a=l.drop a:=by
 unfold zem;rw[Int.toNat_natCast];exact zkF
theorem zfU{α:Type}{a:Nat}{l:List α}(h:a<=l.length):zjX ((a:Nat):Int) l=true:=zfk h (Nat.le_refl _)
theorem zjr(N:Nat)(l:List UInt8)(h:l.length<=100000):zF N l=some (l,()):=by
 unfold zF
 rw[ze2 (by omega)];rfl
theorem xi{α:Type}{l:List α}{a b:Nat}:(slice l a b).length<=l.length:=by
 unfold slice;rw[List.length_take,List.length_drop];omega
def zcI:List UInt8->Option Nat
 | []=>none
 |a::r=>if a=13/\r.head?=some 10 then some 0 else(zcI r).map (· + 1)
theorem zlp:∀ {l:List UInt8} {e:Nat},zcI l=some e->e+1<l.length
 | [],e,h=>by cases h
 |a::r,e,h=>by
  unfold zcI at h
  split at h
  ·rename_i hc
   cases h
   cases r with
   |nil=>simp at hc
   |cons c r=>simp
  ·cases hr:zcI r with
   |none=>rw[hr] at h;cases h
   |some k=>
    rw[hr] at h
    have:=zlp hr
    cases h
    simp;omega
theorem zg5:∀ (l:List UInt8),Go.Lib.index l [13,10]=match zcI l with|some e=>(e:Int)|none=>-1
 | []=>rfl
 |a::r=>by
  unfold Go.Lib.index zcI
  have ih:=zg5 r
  have hp:([13,10]:List UInt8).isPrefixOf (a::r)=decide (a=13/\r.head?=some 10):=by
   cases r with
   |nil=>simp [List.isPrefixOf]
   |cons c r=>
    simp only[List.isPrefixOf,Bool.and_true,List.head?_cons,Option.some.injEq]
    by_cases h1:a=13
    ·by_cases h2:c=10
     ·subst h1;subst h2;rfl
     ·subst h1;simp [h2,beq_eq_false_iff_ne,Ne.symm h2]
    ·simp [h1,Ne.symm h1]
  rw[hp]
  by_cases hc:a=13/\r.head?=some 10
  ·simp [hc]
  ·rw[decide_eq_false hc,if_neg hc,if_neg (by simp),ih]
   cases zcI r with
   |none=>rfl
   |some k=>
    simp only[Option.map_some]
    have:((k:Int) == -1)=false:=by simp
    rw[this];simp
def zaX(c:UInt8)(l:List UInt8):Nat->Option Nat
 |0=>none
 |k+1=>if l[k]?=some c then some k else zaX c l k
theorem zfw{c:UInt8}{l:List UInt8}:∀ {k j:Nat},zaX c l k=some j->j<k/\l[j]?=some c/\∀ i,j<i->i<k->l[i]? ≠ some c
 |0,j,h=>by cases h
 |k+1,j,h=>by
  unfold zaX at h
  split at h
  ·rename_i hc
   cases h
   exact⟨by omega,hc,fun i h1 h2=>by omega⟩
  ·rename_i hc
   obtain⟨h1,h2,h3⟩:=zfw h
   refine⟨by omega,h2,fun i h4 h5=>?_⟩
   by_cases e:i=k
   ·subst e;exact hc
   ·exact h3 i h4 (by omega)
def zjU(l:List UInt8):Option Nat:=if l.getLast?=some 125 then match zaX 123 l (l.length-1) with
 |some j=>zjH (slice l (j+1) (l.length-1))
 |none=>none
 else none
def zqz(o:Option Nat):Option (Int×Bool×Unit):=some (match o with
 |some v=>(((v:Nat):Int),true,())
 |none=>(0,false,()))
theorem zma(s:List UInt8):zso s=zqz (zjH s):=rfl
theorem wrap32{v:Nat}(h:v<=4294967295):IntKind.wrap .i64 (v:Int)=v:=wri (by omega) (by omega)
theorem zlL(N:Nat){l:List UInt8}(hl:l.length<=1000000)(c:UInt8):∀ (k m:Nat),k<=l.length->k<m->zi N m l c ((k:Int)-1)=some (match zaX c l k with|some j=>.inl (j:Int)|none=>.inr ())
 |0,m,_,h=>by
  obtain⟨m,rfl⟩:∃ q,m=q+1:=⟨m-1,by omega⟩
  unfold zi zT
  rw[show decide ((0:Int)<=((0:Nat):Int)-1)=false by decide]
  rfl
 |k+1,m,hk,h=>by
  obtain⟨m,rfl⟩:∃ q,m=q+1:=⟨m-1,by omega⟩
  have ih:=zlL N hl c k m (by omega) (by omega)
  unfold zi zT
  rw[show(((k+1:Nat):Int)-1)=((k:Nat):Int) by omega,decide_eq_true (by omega:(0:Int)<=(k:Int)),cond_true,xD (by omega),cond_true,Int.toNat_natCast,zkm (u:=.u8) (by omega:k<l.length),wri (by omega) (by omega),ih]
  rw[show zaX c l (k+1)=if l[k]?=some c then some k else zaX c l k from rfl,List.getElem?_eq_getElem (by omega:k<l.length)]
  by_cases e:l[k]=c
  ·simp [e]
  ·rw[beq_eq_false_iff_ne.2 e,cond_false,if_neg (by simp [e])]
theorem zlM(N:Nat){l:List UInt8}(hl:l.length<=1000000)(hN:l.length<N)(c:UInt8):qb N l c=some (match zaX c l l.length with|some j=>(j:Int)|none=>-1,()):=by
 unfold qb qn
 rw[wri (by omega) (by omega),zlL N hl c l.length N (Nat.le_refl _) hN,Option.bind_some]
 cases zaX c l l.length<;>rfl
theorem zfx{c:UInt8}{l:List UInt8}{n:Nat}:∀ {k:Nat},k<=n->zaX c (l.take n) k=zaX c l k
 |0,_=>rfl
 |k+1,h=>by
  rw[show zaX c (l.take n) (k+1)=if(l.take n)[k]?=some c then some k else zaX c (l.take n) k from rfl,show zaX c l (k+1)=if l[k]?=some c then some k else zaX c l k from rfl,List.getElem?_take_of_lt (show k<n by omega),zfx (by omega)]
theorem zjd(N:Nat){l:List UInt8}(hl:l.length<=1000000):qT N l [125]=some (if l.getLast?=some 125 then(l.take (l.length-1),true,()) else(l,false,())):=by
 unfold qT jT xn
 cases hc:l.length with
 |zero=>
  have:l=[]:=List.length_eq_zero_iff.1 hc
  subst this
  rfl
 |succ n=>
  have hw:IntKind.wrap .i64 (((n+1:Nat):Int)-(1:Int))=(n:Int):=by rw[show(((n+1:Nat):Int)-1)=(n:Int) by omega];exact wri (by omega) (by omega)
  have hd:zem l n=[l[n]'(by omega)]:=by
   rw[zdY,drop_one (by omega),List.drop_of_length_le (by omega)]
  have hgl:l.getLast?=some (l[n]'(by omega)):=by rw[List.getLast?_eq_getElem?,show l.length-1=n by omega,List.getElem?_eq_getElem]
  simp only[List.length_cons,List.length_nil,Nat.zero_add,hc]
  rw[show decide (((1:Nat):Int)<=((n+1:Nat):Int))=true by simp;omega,cond_true]
  simp only[show(((1:Nat):Int))=(1:Int) from rfl,hw,zfU (show n<=l.length by omega),Bool.and_true,cond_true,Int.toNat_natCast,hd,Option.bind_some,hgl,Option.some.injEq]
  by_cases e:l[n]'(by omega)=125
  ·simp only[e,beq_self_eq_true,Bool.not_true,cond_false,if_true]
   rw[show wm (0:Int) (n:Int) (n+1)=true from zfk (a:=0) (Nat.zero_le _) (by omega),zaN]
   rfl
  ·have:([l[n]'(by omega)]==[(125:UInt8)])=false:=by simp [e]
   simp only[this,Bool.not_false,cond_true,e,if_false]
theorem znm(N:Nat){l:List UInt8}(hl:l.length<=100000)(hN:l.length<N)(hN2:10<=N):qV N l=zqz (zjU l):=by
 unfold qV
 rw[zjd N (by omega),Option.bind_some]
 unfold zjU
 by_cases h:l.getLast?=some 125
 ·rw[if_pos h,if_pos h]
  have hlt:(l.take (l.length-1)).length=l.length-1:=by rw[List.length_take];omega
  simp only[Bool.not_true,cond_false]
  rw[zlM N (by omega) (by omega),hlt,zfx (Nat.le_refl _),Option.bind_some]
  cases hj:zaX 123 l (l.length-1) with
  |none=>rfl
  |some j=>
   obtain⟨h1,h2,h3⟩:=zfw hj
   simp only
   rw[decide_eq_false (by omega),cond_false,wri (by omega) (by omega),show((j:Int)+1)=((j+1:Nat):Int) by omega,zfU (by omega),Int.toNat_natCast]
   simp only[Bool.and_true,cond_true]
   have hs:zem (l.take (l.length-1)) (j+1)=slice l (j+1) (l.length-1):=by rw[zdY,List.drop_take];rfl
   rw[hs,znP N hN2 _ (by have:=@xi _ l (j+1) (l.length-1);omega),zma]
   cases hn:zjH (slice l (j+1) (l.length-1)) with
   |none=>rfl
   |some v=>
    simp only[zqz,Option.bind_some]
    rw[wrap32 (zpP hn)]
 ·rw[if_neg h,if_neg h]
  rfl
abbrev Frm:=Int×List UInt8
def zif(b:List UInt8):Nat->Nat->List Frm×Option Nat
 |0,_=>([],none)
 |m+1,f=>if f<=b.length then match zcI (b.drop f) with
  |none=>([],none)
  |some e=>if 8192<(slice b f (f+e)).length then([(3,(slice b f (f+e)).take 8192)],some (f+e+2)) else match zjU (slice b f (f+e)) with
   |none=>([(1,b.take (f+e))],some (f+e+2))
   |some n=>if 65536<n then([(4,b.take (f+e))],some (f+e+2)) else((2,[])::(zif b m (f+e+2+n)).1,(zif b m (f+e+2+n)).2)
  else([],none)
theorem zaB(b:List UInt8){f:Nat}(h:b.length<f):∀ m,zif b m f=([],none)
 |0=>rfl
 |m+1=>by unfold zif;rw[if_neg (by omega)]
theorem zju{b:List UInt8}{f e:Nat}(h:zcI (b.drop f)=some e):f+e+2<=b.length:=by
 have:=zlp h;rw[List.length_drop] at this;omega
theorem zgQ(b:List UInt8):∀ (m m' f:Nat),b.length<m+f->b.length<m'+f->zif b m f=zif b m' f
 |0,m',f,h,h'=>by rw[zaB b (by omega),zaB b (by omega)]
 |m+1,0,f,h,h'=>by rw[zaB b (by omega),zaB b (by omega)]
 |m+1,m'+1,f,h,h'=>by
  unfold zif
  split
  ·cases he:zcI (b.drop f) with
   |none=>rfl
   |some e=>
    simp only
    split
    ·rfl
    ·cases hn:zjU (slice b f (f+e)) with
     |none=>rfl
     |some n=>simp only;rw[zgQ b m m' (f+e+2+n) (by omega) (by omega)]
  ·rfl
theorem zig(b:List UInt8):∀ (m f:Nat),f<=b.length->(zif b m f).1.length+f<=b.length/\∀ k,(zif b m f).2=some k->(zif b m f).1.length+f<=k/\f+2<=k/\k<=b.length
 |0,f,hf=>⟨by simp [zif];omega,fun k h=>by cases h⟩
 |m+1,f,hf=>by
  unfold zif
  rw[if_pos hf]
  cases he:zcI (b.drop f) with
  |none=>exact⟨by simp;omega,fun k h=>by cases h⟩
  |some e=>
   have:=zju he
   simp only
   split
   ·exact⟨by simp;omega,fun k h=>by cases h;simp;omega⟩
   ·cases hn:zjU (slice b f (f+e)) with
    |none=>exact⟨by simp;omega,fun k h=>by cases h;simp;omega⟩
    |some n=>
     simp only
     split
     ·exact⟨by simp;omega,fun k h=>by cases h;simp;omega⟩
     ·by_cases hg:f+e+2+n<=b.length
      ·obtain⟨h1,h2⟩:=zig b m (f+e+2+n) hg
       exact⟨by simp only[List.length_cons];omega,fun k h=>by have:=h2 k h;simp only[List.length_cons];omega⟩
      ·rw[zaB b (by omega)]
       exact⟨by simp;omega,fun k h=>by cases h⟩
def zie(b:List UInt8)(f:Nat):List Frm×Option Nat:=zif b (b.length+1) f
theorem zpj(b:List UInt8){f:Nat}(hf:f<=b.length):zie b f=match zcI (b.drop f) with
  |none=>([],none)
  |some e=>if 8192<(slice b f (f+e)).length then([(3,(slice b f (f+e)).take 8192)],some (f+e+2)) else match zjU (slice b f (f+e)) with
   |none=>([(1,b.take (f+e))],some (f+e+2))
   |some n=>if 65536<n then([(4,b.take (f+e))],some (f+e+2)) else((2,[])::(zie b (f+e+2+n)).1,(zie b (f+e+2+n)).2):=by
 unfold zie
 rw[show zif b (b.length+1) f=_ from rfl]
 conv=>lhs;unfold zif
 rw[if_pos hf]
 cases he:zcI (b.drop f) with
 |none=>rfl
 |some e=>
  simp only
  split
  ·rfl
  ·cases hn:zjU (slice b f (f+e)) with
   |none=>rfl
   |some n=>simp only;rw[zgQ b b.length (b.length+1) (f+e+2+n) (by omega) (by omega)]
def zo3:Nat->List UInt8->List Frm×Nat
 |0,b=>([],b.length)
 |m+1,b=>match(zie b 0).2 with
  |none=>((zie b 0).1,b.length)
  |some k=>((zie b 0).1++(zo3 m (b.drop k)).1,(zo3 m (b.drop k)).2)
theorem zhV:∀ (m m':Nat) (b:List UInt8),b.length<m->b.length<m'->zo3 m b=zo3 m' b
 |0,_,b,h,_=>by omega
 |m+1,0,b,_,h=>by omega
 |m+1,m'+1,b,h,h'=>by
  unfold zo3
  cases hc:(zie b 0).2 with
  |none=>rfl
  |some k=>
   have:=(zig b (b.length+1) 0 (Nat.zero_le _)).2 k hc
   simp only
   rw[zhV m m' (b.drop k) (by rw[List.length_drop];omega) (by rw[List.length_drop];omega)]
def zkG(b:List UInt8):List Frm×Nat:=zo3 (b.length+1) b
def kR(b:List UInt8)(f:Nat):List Frm×Nat:=match(zie b f).2 with
 |none=>((zie b f).1,b.length)
 |some k=>((zie b f).1++(zkG (b.drop k)).1,(zkG (b.drop k)).2)
theorem zeS(b:List UInt8):zkG b=kR b 0:=by
 unfold zkG kR
 rw[show zo3 (b.length+1) b=_ from rfl]
 conv=>lhs;unfold zo3
 cases hc:(zie b 0).2 with
 |none=>rfl
 |some k=>
  have:=(zig b (b.length+1) 0 (Nat.zero_le _)).2 k hc
  simp only
  unfold zkG
  rw[zhV b.length ((b.drop k).length+1) (b.drop k) (by rw[List.length_drop];omega) (by omega)]
theorem zf4(N:Nat){b l:List UInt8}{at_ sk se:Int}(hb:b.length<=100000)(hl:l.length<=100000){k:Int}{n:Nat}(hn:n<=b.length):zq N (b,(at_,(sk,se))) k l (n:Int)=some ((b.drop n,(0,(0,0))),(k,l),true,()):=by
 unfold zq
 rw[zjr N l (by omega),Option.bind_some]
 simp only[zfU hn,Bool.and_true,cond_true,Int.toNat_natCast,zdY]
 rw[zjr N _ (by rw[List.length_drop];omega),Option.bind_some]
def zkT(b:List UInt8)(f:Nat):Option (Frm×List UInt8×Nat×Nat):=match zcI (b.drop f) with
 |none=>none
 |some e=>if 8192<(slice b f (f+e)).length then some ((3,(slice b f (f+e)).take 8192),b.drop (f+e+2),0,0) else match zjU (slice b f (f+e)) with
  |none=>some ((1,b.take (f+e)),b.drop (f+e+2),0,0)
  |some n=>if 65536<n then some ((4,b.take (f+e)),b.drop (f+e+2),0,0) else some ((2,[]),b,f+e+2,n)
theorem znO(N:Nat){b:List UInt8}{a s:Nat}{se:Int}(hb:b.length<=100000)(ha:a<=b.length)(hs:s<=100000)(hf:b.length<a+s):zk N (b,((a:Int),((s:Int),se)))=some ((b,((a:Int),((s:Int),se))),(0,[]),false,()):=by
 unfold zk zE
 simp only
 rw[wri (by omega) (by omega),decide_eq_true (by omega),cond_true,Option.bind_some]
 rfl
theorem zhz(N:Nat){b:List UInt8}{a s:Nat}{se:Int}(hb:b.length<=100000)(hN:b.length<N)(hN2:20<=N)(hf:a+s<=b.length):match zkT b (a+s) with
  |none=>∃ se',zk N (b,((a:Int),((s:Int),se)))=some ((b,(((a+s:Nat):Int),((0:Int),se'))),(0,[]),false,())
  |some (fr,b',a',s')=>∃ se',zk N (b,((a:Int),((s:Int),se)))=some ((b',((a':Int),((s':Int),se'))),fr,true,()):=by
 have hlit:zE N (b,((a:Int),((s:Int),se)))=some ((b,(((a+s:Nat):Int),((0:Int),((a+s:Nat):Int)))),true,()):=by
  unfold zE
  simp only
  rw[wri (x:=((b.length:Nat):Int)-(a:Int)) (by omega) (by omega),decide_eq_false (by omega),cond_false,wri (by omega) (by omega)]
  rfl
 generalize hfq:a+s=f at *
 have hlen:(b.drop f).length<=100000:=by rw[List.length_drop];omega
 have hline:qd N (b,((f:Int),((0:Int),(f:Int))))=match zcI (b.drop f) with
   |none=>some ((b,((f:Int),((0:Int),(if IntKind.wrap .i64 (((b.length:Nat):Int)-1) > (f:Int) then IntKind.wrap .i64 (((b.length:Nat):Int)-1) else(f:Int))))),(0:Int),false,())
   |some e=>some ((b,((f:Int),((0:Int),(f:Int)))),((f+e:Nat):Int),true,()):=by
  unfold qd
  have hl32:Nat.ble (b.drop f).length zeA=true:=by simp [zeA];omega
  simp only[zfU hf,Bool.and_true,cond_true,Int.toNat_natCast,zdY,hl32,zg5]
  cases he:zcI (b.drop f) with
  |none=>rfl
  |some e=>
   have:=zju he
   simp only
   rw[decide_eq_false (by omega),cond_false,wri (by omega) (by omega)]
   rfl
 unfold zk
 rw[hlit,Option.bind_some]
 simp only[Bool.not_true,cond_false]
 rw[hline]
 unfold zkT
 cases he:zcI (b.drop f) with
 |none=>exact⟨_,rfl⟩
 |some e=>
  have hle:=zju he
  have hsl:(slice b f (f+e)).length<=b.length:=xi
  simp only[Option.bind_some,Bool.not_true,cond_false]
  rw[zfk (by omega) (by omega)]
  simp only[Bool.and_true,cond_true,Int.toNat_natCast]
  rw[znm N (by omega) (by omega) (by omega)]
  have hw2:IntKind.wrap .i64 (((f+e:Nat):Int)+2)=((f+e+2:Nat):Int):=by rw[wri (by omega) (by omega)];omega
  have hb2:wm (0:Int) ((f+e:Nat):Int) b.length=true:=zfk (a:=0) (by omega) (by omega)
  by_cases h8:8192<(slice b f (f+e)).length
  ·have hb3:wm (0:Int) (8192:Int) (slice b f (f+e)).length=true:=zfk (a:=0) (b:=8192) (by omega) (by omega)
   simp only[zqz,Option.bind_some,if_pos h8]
   rw[decide_eq_true (by omega),cond_true,hb3,hw2]
   simp only[Bool.and_true,cond_true]
   rw[zf4 N hb (by have:=@xi _ (slice b f (f+e)) 0 8192;omega) (by omega),Option.bind_some,zaN]
   exact⟨_,rfl⟩
  ·simp only[zqz,Option.bind_some,if_neg h8]
   rw[decide_eq_false (by omega),cond_false]
   cases hn:zjU (slice b f (f+e)) with
   |none=>
    simp only[Bool.not_false,cond_true,hb2,Bool.and_true]
    rw[hw2,zf4 N hb (by have:=@xi _ b 0 (f+e);omega) (by omega),Option.bind_some,zaN]
    exact⟨_,rfl⟩
   |some n=>
    simp only[Bool.not_true,cond_false]
    by_cases hn6:65536<n
    ·rw[decide_eq_true (by omega),cond_true,if_pos hn6]
     simp only[hb2,Bool.and_true,cond_true]
     rw[hw2,zf4 N hb (by have:=@xi _ b 0 (f+e);omega) (by omega),Option.bind_some,zaN]
     exact⟨_,rfl⟩
    ·rw[decide_eq_false (by omega),cond_false,if_neg hn6,hw2]
     exact⟨_,rfl⟩
theorem zgR{b:List UInt8}{f:Nat}(h:b.length<f):kR b f=([],b.length):=by
 unfold kR zie
 rw[zaB b h]
theorem wQ{b:List UInt8}{f:Nat}(hf:f<=b.length):kR b f=match zkT b f with
  |none=>([],b.length)
  |some (fr,b',a',s')=>(fr::(kR b' (a'+s')).1,(kR b' (a'+s')).2):=by
 have fin:∀ (fr:Frm) (k:Nat),zie b f=([fr],some k)->kR b f=(fr::(kR (b.drop k) (0+0)).1,(kR (b.drop k) (0+0)).2):=fun fr k h=>by
  unfold kR
  rw[h]
  simp only
  rw[zeS]
  rfl
 have hc:=zpj b hf
 unfold zkT
 cases he:zcI (b.drop f) with
 |none=>
  rw[he] at hc
  unfold kR
  rw[hc]
 |some e=>
  rw[he] at hc
  simp only at hc |-
  by_cases h8:8192<(slice b f (f+e)).length
  ·rw[if_pos h8] at hc |-
   exact fin _ _ hc
  ·rw[if_neg h8] at hc |-
   cases hn:zjU (slice b f (f+e)) with
   |none=>rw[hn] at hc;exact fin _ _ hc
   |some n=>
    rw[hn] at hc
    simp only at hc |-
    by_cases h6:65536<n
    ·rw[if_pos h6] at hc |-
     exact fin _ _ hc
    ·rw[if_neg h6] at hc |-
     simp only
     unfold kR
     rw[hc]
     simp only
     cases(zie b (f+e+2+n)).2<;>rfl
theorem zet{b b':List UInt8}{f a' s':Nat}{fr:Frm}(h:zkT b f=some (fr,b',a',s')):b'.length<=b.length/\a'<=b'.length/\s'<=65536/\b'.length-(a'+s')+2<=b.length-f/\fr.2.length<=b.length/\∃ k,b'=b.drop k:=by
 unfold zkT at h
 cases he:zcI (b.drop f) with
 |none=>rw[he] at h;cases h
 |some e=>
  have hle:=zju he
  have hsl:(slice b f (f+e)).length<=b.length:=xi
  rw[he] at h
  simp only at h
  split at h
  ·cases h
   refine⟨by rw[List.length_drop];omega,Nat.zero_le _,by omega,by rw[List.length_drop];omega,by simp only[List.length_take];omega,_,rfl⟩
  ·split at h
   ·cases h
    refine⟨by rw[List.length_drop];omega,Nat.zero_le _,by omega,by rw[List.length_drop];omega,by simp only[List.length_take];omega,_,rfl⟩
   ·split at h
    ·cases h
     refine⟨by rw[List.length_drop];omega,Nat.zero_le _,by omega,by rw[List.length_drop];omega,by simp only[List.length_take];omega,_,rfl⟩
    ·cases h
     refine⟨Nat.le_refl _,by omega,by omega,by omega,by simp,0,rfl⟩
theorem zhU(N C:Nat)(hC:C<=100000)(hN:100000<N):∀ (m:Nat) (b:List UInt8) (a s:Nat) (se:Int) (out:List Frm),b.length<=100000->a<=b.length->s<=65536->b.length-(a+s)<m->out.length+(b.length-(a+s))<=C ->
  ∃ b' a' s' se',zY N m b (a:Int) (s:Int) se out=some (b',a',s',se',out++(kR b (a+s)).1)/\b'.length=(kR b (a+s)).2
 |0,b,a,s,se,out,hb,ha,hs,h,ho=>by omega
 |m+1,b,a,s,se,out,hb,ha,hs,h,ho=>by
  unfold zY wW
  by_cases hf:a+s<=b.length
  ·have hp:=zhz N (se:=se) hb (by omega) (by omega) hf
   rw[wQ hf]
   cases hx:zkT b (a+s) with
   |none=>
    rw[hx] at hp
    obtain⟨se',hp⟩:=hp
    rw[hp]
    exact⟨_,_,_,_,by simp only[Option.bind_some,Bool.not_false,cond_true];rw[List.append_nil],rfl⟩
   |some w=>
    obtain⟨fr,b',a',s'⟩:=w
    rw[hx] at hp
    obtain⟨se',hp⟩:=hp
    obtain⟨h1,h2,h3,h4,h5,_⟩:=zet hx
    have hlo:Nat.blt (out.length+1) zA=true:=ze2 (by omega)
    obtain⟨b2,a2,s2,se2,q1,q2⟩:=zhU N C hC hN m b' a' s' se' (out++[fr]) (by omega) h2 h3 (by omega) (by simp;omega)
    refine⟨b2,a2,s2,se2,?_,q2⟩
    rw[hp]
    simp only[Option.bind_some,Bool.not_true,cond_false,hlo,cond_true]
    rw[q1,List.append_assoc]
    rfl
  ·rw[znO N hb ha (by omega) (by omega),zgR (by omega)]
   exact⟨_,_,_,_,by simp only[Option.bind_some,Bool.not_false,cond_true];rw[List.append_nil],rfl⟩
theorem zfK(N:Nat){b:List UInt8}(hb:b.length<=100000)(hN:100000<N):zB N b=some ((zkG b).1,((zkG b).2:Int),()):=by
 unfold zB
 have hp:=zhz N (b:=b) (a:=0) (s:=0) (se:=0) hb (by omega) (by omega) (Nat.zero_le _)
 rw[show((0:Nat):Int)=0 from rfl] at hp
 have hlo:Nat.blt b.length zA=true:=ze2 (by omega)
 rw[hlo,cond_true,zeS,show kR b 0=kR b (0+0) from rfl,wQ (Nat.zero_le _)]
 cases hx:zkT b (0+0) with
 |none=>
  rw[hx] at hp
  obtain⟨se',hp⟩:=hp
  rw[hp]
  rfl
 |some w=>
  obtain⟨fr,b',a',s'⟩:=w
  rw[hx] at hp
  obtain⟨se',hp⟩:=hp
  obtain⟨h1,h2,h3,h4,h5,_⟩:=zet hx
  obtain⟨b2,a2,s2,se2,q1,q2⟩:=zhU N 100000 (by omega) hN N b' a' s' se' [fr] (by omega) h2 h3 (by omega) (by simp;omega)
  rw[hp]
  simp only[Option.bind_some,Bool.not_true,cond_false]
  rw[q1]
  simp only[Option.bind_some,qc,q2]
  rfl
theorem zel:∀ (m:Nat) (b:List UInt8) (f:Nat),b.length-f<m->(kR b f).1.length<=b.length-f
 |0,b,f,h=>by omega
 |m+1,b,f,h=>by
  by_cases hf:f<=b.length
  ·rw[wQ hf]
   cases hx:zkT b f with
   |none=>simp
   |some w=>
    obtain⟨fr,b',a',s'⟩:=w
    obtain⟨h1,h2,h3,h4,h5,_⟩:=zet hx
    have:=zel m b' (a'+s') (by omega)
    simp only[List.length_cons];omega
  ·rw[zgR (by omega)];simp
theorem zkH(b:List UInt8):(zkG b).1.length<=b.length:=by rw[zeS];exact zel (b.length+1) b 0 (by omega)
abbrev Tok:=Int×(List UInt8×Int)




def kc(t:Tok):UInt8:=nth .u8 [101,115,40,41,119,113,108] t.1.toNat





theorem eqT{a b:Int}(h:a=b):(a==b)=true:=by rw[beq_iff_eq];exact h
theorem eqF{a b:Int}(h:¬ a=b):(a==b)=false:=by simpa using h

theorem zoJ{α:Type}{l:List α}{n:Nat}(h:l.length≠n):((((List.length l):Nat):Int)==((n:Nat):Int))=false:=by simp;omega


theorem zlj(c:Bool)(b:Bool):cond c (some (b,())) (some (false,()))=some (c&&b,()):=by cases c<;>rfl
theorem zrL(N:Nat)(s:List UInt8)(hs:s.length<=100000):∀ (m i:Nat),i<=s.length->s.length<m+i ->
  zK N m s (s.length:Int) (i:Int)=some (if(s.drop i).all zko=true then Sum.inr () else Sum.inl ())
 |0,i,h,h'=>by omega
 |m+1,i,h,h'=>by
  unfold zK wg
  by_cases hi:i<s.length
  ·simp only[zrQ hi,cond_true,xD hi,Int.toNat_natCast,zkm (u:=.u8) hi,zun,Option.bind_some,drop_one hi,List.all_cons]
   cases hc:zko s[i] with
   |true=>
    simp only[Bool.not_true,cond_false,Bool.true_and]
    rw[wri (by omega) (by omega),show((i:Int)+1)=((i+1:Nat):Int) by omega]
    exact zrL N s hs m (i+1) (by omega) (by omega)
   |false=>simp
  ·simp only[zrP hi,cond_false]
   rw[List.drop_eq_nil_of_le (by omega)]
   simp
def zg7(s:List UInt8):Bool:=s != []&&s.all zko
theorem zqH(st:List (Int×Int)):zm 200000 st []=some (decide (st=[]),()):=by
 unfold zm
 cases st with
 |nil=>rfl
 |cons a r=>
  have:((((List.length (a::r)):Nat):Int) != (((List.length ([]:List (Int×Int))):Nat):Int))=true:=by simp;omega
  simp only[this,cond_true]
  simp
def zot(m:List UInt8)(st:List (Int×Int))(it mo:Int)(si:Bool)(fl:UInt8)(da:List UInt8):Bool:=m==[]&&(decide (st=[])&&(it==0&&(mo==0&&(si==false&&(fl==0&&da==[])))))
theorem zmy(m:List UInt8)(st:List (Int×Int))(it mo:Int)(si:Bool)(fl:UInt8)(da:List UInt8):
  zW 200000 (([]:List UInt8),((0:Int),(m,(st,(it,(mo,(si,(fl,da)))))))) (([]:List UInt8),((0:Int),(([]:List UInt8),(([]:List (Int×Int)),((0:Int),((0:Int),(false,((0:UInt8),([]:List UInt8)))))))))=some (zot m st it mo si fl da,()):=by
 unfold zW zot
 simp only[beq_self_eq_true,cond_true,zqH,Option.bind_some,zlj]
theorem zm8(k:Int):∃ v,zL 200000 k=some (v,())/\(v==([]:List UInt8))=!(decide (1<=k)&&decide (k<=8)):=by
 unfold zL
 by_cases h1:1<=k
 ·by_cases h8:k<=8
  ·have e1:decide ((1:Int)<=k)=true:=by simpa using h1
   have e2:decide (k<=(8:Int))=true:=by simpa using h8
   simp only[e1,e2,cond_true]
   have:k=1\/k=2\/k=3\/k=4\/k=5\/k=6\/k=7\/k=8:=by omega
   rcases this with rfl|rfl|rfl|rfl|rfl|rfl|rfl|rfl<;>exact⟨_,rfl,rfl⟩
  ·have e1:decide ((1:Int)<=k)=true:=by simpa using h1
   have e2:decide (k<=(8:Int))=false:=by simpa using h8
   simp only[e1,e2,cond_true,cond_false]
   exact⟨_,rfl,rfl⟩
 ·have e1:decide ((1:Int)<=k)=false:=by simpa using h1
  simp only[e1,cond_false]
  exact⟨_,rfl,rfl⟩
def VP(t:List UInt8)(k:Int)(m:List UInt8)(st:List (Int×Int))(it mo:Int)(si:Bool)(fl:UInt8)(da:List UInt8):Prop:=
 zg7 t=true/\1<=k/\k<=8/\m.length<=65536/\da.length<=65536/\fl<=31 /\
 ((k=5/\st=[]/\it=0/\mo=0/\si=false/\fl=0/\da=[])\/(k=6/\st=[]/\it=0/\mo=0/\si=false) \/
  (k=7/\m=[]/\st≠[]/\1<=it/\it<=31/\mo=0/\si=false/\fl=0/\da=[])\/(k=8/\m=[]/\st≠[]/\it=0/\0<=mo/\mo<=2/\da=[]) \/
  (k<=4/\m=[]/\st=[]/\it=0/\mo=0/\si=false/\fl=0/\da=[]))
def zr1(o:Option (Bool×Unit))(p:Prop):Prop:=∃ b:Bool,o=some (b,())/\(b=true↔p)
theorem zav{p:Prop}(h:¬ p):zr1 (some (false,())) p:=⟨false,rfl,by simp [h]⟩
theorem zhP{b:Bool}{p:Prop}(h:b=true↔p):zr1 (some (b,())) p:=⟨b,rfl,h⟩
theorem max_le(a b:Nat):decide ((65536:Int)<(if((b:Nat):Int) > ((a:Nat):Int) then((b:Nat):Int) else((a:Nat):Int)))=!(decide (a<=65536)&&decide (b<=65536)):=by
 rw[Bool.eq_iff_iff]
 by_cases h:((b:Nat):Int) > ((a:Nat):Int)
 ·rw[if_pos h];simp;omega
 ·rw[if_neg h];simp;omega
theorem zaz{m:List UInt8}{st:List (Int×Int)}{it mo:Int}{si:Bool}{fl:UInt8}{da:List UInt8}:zot m st it mo si fl da=true↔m=[]/\st=[]/\it=0/\mo=0/\si=false/\fl=0/\da=[]:=by
 unfold zot
 simp only[Bool.and_eq_true,beq_iff_eq,decide_eq_true_eq]
theorem zkN(t:List UInt8)(k:Int)(m:List UInt8)(st:List (Int×Int))(it mo:Int)(si:Bool)(fl:UInt8)(da:List UInt8)(ht:t.length<=20000):
  zr1 (jA 200000 (t,(k,(m,(st,(it,(mo,(si,(fl,da)))))))))  (VP t k m st it mo si fl da):=by
 have hL:=zrL 200000 t (by omega) 200000 0 (by omega) (by omega)
 rw[show((0:Nat):Int)=(0:Int) from rfl,List.drop_zero] at hL
 obtain⟨v,hv1,hv2⟩:=zm8 k
 unfold jA
 simp only[hL,hv1,Option.bind_some,hv2,max_le]
 by_cases h0:t=[]
 ·have:(t != ([]:List UInt8))=false:=by simpa using h0
  simp only[this,cond_false]
  exact zav (fun h=>by have:=h.1;simp [zg7,h0] at this)
 ·have e0:(t != ([]:List UInt8))=true:=by simpa using h0
  simp only[e0,cond_true]
  cases hall:t.all zko with
  |false=>
   simp only[Bool.false_eq_true,if_false,zw]
   exact zav (fun h=>by have:=h.1;simp [zg7,hall] at this)
  |true=>
   have hit:zg7 t=true:=by unfold zg7;rw[e0,hall];rfl
   simp only[if_true,zw]
   by_cases h18:1<=k/\k<=8
   ·have e1:(decide ((1:Int)<=k)&&decide (k<=(8:Int)))=true:=by simpa using h18
    simp only[e1,Bool.not_true,cond_false]
    by_cases hf:fl<=31
    ·have e2:decide ((31:UInt8)<fl)=false:=by
      rw[decide_eq_false_iff_not];exact UInt8.not_lt.2 hf
     simp only[e2,cond_false]
     by_cases hml:m.length<=65536/\da.length<=65536
     ·have e3:(decide (m.length<=65536)&&decide (da.length<=65536))=true:=by simpa using hml
      simp only[e3,Bool.not_true,cond_false]
      by_cases h5:k=5
      ·simp only[eqT h5,cond_true]
       rw[zmy,Option.bind_some]
       refine zhP ?_
       unfold VP
       rw[zaz]
       constructor
       ·rintro⟨_,a1,a2,a3,a4,a5,a6⟩
        exact⟨hit,h18.1,h18.2,hml.1,hml.2,hf,.inl ⟨h5,a1,a2,a3,a4,a5,a6⟩⟩
       ·rintro⟨_,_,_,_,_,_,h|h|h|h|h⟩
        ·exact⟨rfl,h.2⟩
        ·omega
        ·omega
        ·omega
        ·omega
      ·simp only[eqF h5,cond_false]
       by_cases h6:k=6
       ·simp only[eqT h6,cond_true]
        rw[zmy,Option.bind_some]
        refine zhP ?_
        unfold VP
        rw[zaz]
        constructor
        ·rintro⟨_,a1,a2,a3,a4,_,_⟩
         exact⟨hit,h18.1,h18.2,hml.1,hml.2,hf,.inr (.inl ⟨h6,a1,a2,a3,a4⟩)⟩
        ·rintro⟨_,_,_,_,_,_,h|h|h|h|h⟩
         ·omega
         ·exact⟨rfl,h.2.1,h.2.2.1,h.2.2.2.1,h.2.2.2.2,rfl,rfl⟩
         ·omega
         ·omega
         ·omega
       ·simp only[eqF h6,cond_false]
        by_cases h7:k=7
        ·simp only[eqT h7,cond_true]
         by_cases hst:st=[]
         ·simp only[hst,List.length_nil,show(((0:Nat):Int)==(0:Int))=true from rfl,cond_true]
          exact zav (fun h=>by
           obtain⟨_,_,_,_,_,_,h|h|h|h|h⟩:=h
           ·omega
           ·omega
           ·exact h.2.2.1 rfl
           ·omega
           ·omega)
         ·have e4:((((List.length st):Nat):Int)==(0:Int))=false:=zoJ (n:=0) (by simpa using hst)
          simp only[e4,cond_false]
          by_cases hi1:it<1
          ·simp only[show decide (it<(1:Int))=true from by simpa using hi1,cond_true]
           exact zav (fun h=>by
            obtain⟨_,_,_,_,_,_,h|h|h|h|h⟩:=h<;>omega)
          ·simp only[show decide (it<(1:Int))=false from by simpa using hi1,cond_false]
           by_cases hi2:31<it
           ·simp only[show decide ((31:Int)<it)=true from by simpa using hi2,cond_true]
            exact zav (fun h=>by
             obtain⟨_,_,_,_,_,_,h|h|h|h|h⟩:=h<;>omega)
           ·simp only[show decide ((31:Int)<it)=false from by simpa using hi2,cond_false]
            rw[zmy,Option.bind_some]
            refine zhP ?_
            unfold VP
            rw[zaz]
            constructor
            ·rintro⟨a0,_,_,a3,a4,a5,a6⟩
             exact⟨hit,h18.1,h18.2,hml.1,hml.2,hf,.inr (.inr (.inl ⟨h7,a0,hst,by omega,by omega,a3,a4,a5,a6⟩))⟩
            ·rintro⟨_,_,_,_,_,_,h|h|h|h|h⟩
             ·omega
             ·omega
             ·exact⟨h.2.1,rfl,rfl,h.2.2.2.2.2⟩
             ·omega
             ·omega
        ·simp only[eqF h7,cond_false]
         by_cases h8:k=8
         ·simp only[eqT h8,cond_true]
          by_cases hst:st=[]
          ·simp only[hst,List.length_nil,show(((0:Nat):Int)==(0:Int))=true from rfl,cond_true]
           exact zav (fun h=>by
            obtain⟨_,_,_,_,_,_,h|h|h|h|h⟩:=h
            ·omega
            ·omega
            ·omega
            ·exact h.2.2.1 rfl
            ·omega)
          ·have e4:((((List.length st):Nat):Int)==(0:Int))=false:=zoJ (n:=0) (by simpa using hst)
           simp only[e4,cond_false]
           by_cases hi1:mo<0
           ·simp only[show decide (mo<(0:Int))=true from by simpa using hi1,cond_true]
            exact zav (fun h=>by
             obtain⟨_,_,_,_,_,_,h|h|h|h|h⟩:=h<;>omega)
           ·simp only[show decide (mo<(0:Int))=false from by simpa using hi1,cond_false]
            by_cases hi2:2<mo
            ·simp only[show decide ((2:Int)<mo)=true from by simpa using hi2,cond_true]
             exact zav (fun h=>by
              obtain⟨_,_,_,_,_,_,h|h|h|h|h⟩:=h<;>omega)
            ·simp only[show decide ((2:Int)<mo)=false from by simpa using hi2,cond_false]
             rw[zmy,Option.bind_some]
             refine zhP ?_
             unfold VP
             rw[zaz]
             constructor
             ·rintro⟨a0,_,a2,_,_,_,a6⟩
              exact⟨hit,h18.1,h18.2,hml.1,hml.2,hf,.inr (.inr (.inr (.inl ⟨h8,a0,hst,a2,by omega,by omega,a6⟩)))⟩
             ·rintro⟨_,_,_,_,_,_,h|h|h|h|h⟩
              ·omega
              ·omega
              ·omega
              ·exact⟨h.2.1,rfl,h.2.2.2.1,rfl,rfl,rfl,h.2.2.2.2.2.2⟩
              ·omega
         ·simp only[eqF h8,cond_false]
          rw[zmy,Option.bind_some]
          refine zhP ?_
          unfold VP
          rw[zaz]
          constructor
          ·rintro⟨a0,a1,a2,a3,a4,a5,a6⟩
           exact⟨hit,h18.1,h18.2,hml.1,hml.2,hf,.inr (.inr (.inr (.inr ⟨by omega,a0,a1,a2,a3,a4,a5,a6⟩)))⟩
          ·rintro⟨_,_,_,_,_,_,h|h|h|h|h⟩
           ·omega
           ·omega
           ·omega
           ·omega
           ·exact h.2
     ·have e3:(decide (m.length<=65536)&&decide (da.length<=65536))=false:=by
       rw[Bool.eq_false_iff];intro h;exact hml (by simpa using h)
      simp only[e3,Bool.not_false,cond_true]
      exact zav (fun h=>hml ⟨h.2.2.2.1,h.2.2.2.2.1⟩)
    ·have e2:decide ((31:UInt8)<fl)=true:=by
      rw[decide_eq_true_eq];exact UInt8.not_le.1 hf
     simp only[e2,cond_true]
     exact zav (fun h=>hf h.2.2.2.2.2.1)
   ·have e1:(decide ((1:Int)<=k)&&decide (k<=(8:Int)))=false:=by
     rw[Bool.eq_false_iff];intro h;exact h18 (by simpa using h)
    simp only[e1,Bool.not_false,cond_true]
    exact zav (fun h=>h18 ⟨h.2.1,h.2.2.1⟩)

theorem zr4{a b:Nat}(h:a+b<4611686018427387904):decide (a+b<4611686018427387904)=true:=decide_eq_true h
def zqo(b:List UInt8):List UInt8:=[123]++dec b.length++[125,13,10]++b
theorem zny(b:List UInt8)(hb:b.length<=100000):ql 200000 b=some (zqo b,()):=by
 unfold ql zqo
 have hd:=zlm b.length
 rw[zng (by omega),zjt 200000 b.length (by omega) (by omega)]
 simp only[Option.bind_some]
 generalize dec b.length=d at hd |-
 simp (disch:=(simp only[List.length_append,List.length_cons,List.length_nil];omega)) only[zr4,cond_true]
 have hH:((([123]:List UInt8)++d)++([125]:List UInt8))++([13,10]:List UInt8)=[123]++d++[125,13,10]:=by simp
 rw[hH]
 have hl:([123]++d++[125,13,10]:List UInt8).length=d.length+4:=by simp
 generalize([123]++d++[125,13,10]:List UInt8)=H at hl |-
 rw[wri (by omega) (by omega),show((H.length:Int)+(b.length:Int))=((H.length+b.length:Nat):Int) by omega]
 simp only[Int.toNat_natCast,List.length_replicate]
 rw[decide_eq_true (show((H.length+b.length:Nat):Int)<=((H.length+b.length:Nat):Int) by omega),decide_eq_true (show(0:Int)<=((H.length+b.length:Nat):Int) by omega),decide_eq_true (show((H.length+b.length:Nat):Int)<(549755813888:Int) by omega)]
 simp only[Bool.true_or,Bool.and_self,cond_true]
 rw[List.take_of_length_le (show H.length<=H.length+b.length by omega),Nat.min_eq_left (show H.length<=H.length+b.length by omega)]
 have hu:jZ (List.replicate (H.length+b.length) (0:UInt8)) 0 H=H++List.replicate b.length 0:=by
  unfold jZ
  rw[List.take_zero,List.nil_append,Nat.zero_add,List.drop_replicate,Nat.add_sub_cancel_left]
 rw[hu]
 rw[zfk (show H.length<=(H++List.replicate b.length (0:UInt8)).length by simp) (Nat.le_refl _)]
 simp only[Bool.and_self,cond_true]
 have hv:jZ (H++List.replicate b.length (0:UInt8)) H.length (List.take ((H++List.replicate b.length (0:UInt8)).length-H.length) b)=H++b:=by
  unfold jZ
  rw[List.length_append,List.length_replicate,Nat.add_sub_cancel_left,List.take_length,List.take_left,List.drop_append,List.drop_of_length_le (by omega)]
  simp
 rw[hv]
def zpp(c:UInt8):List UInt8:=if c=34\/c=92 then[92,c] else[c]
def esc(s:List UInt8):List UInt8:=s.flatMap zpp
theorem zil:∀ s:List UInt8,(esc s).length<=2*s.length
 | []=>by simp [esc]
 |c::s=>by
  have:=zil s
  unfold esc at this |-
  rw[List.flatMap_cons,List.length_append]
  have h1:(zpp c).length<=2:=by unfold zpp;split<;>simp
  simp only[List.length_cons];omega
def zg9(s:List UInt8):Option (List UInt8):=if s.all zeG=true then some ([34]++esc s++[34]) else none
def prU{α β:Type}:α ⊕ β->Option β
 |.inl _=>none
 |.inr o=>some o
theorem zd0(N:Nat){s:List UInt8}(hs:s.length<=20000):∀ (m i:Nat) (out:List UInt8),i<=s.length->s.length<m+i->out.length<=2*i+1 ->
  ∃ o,zO N m s ((s.length:Nat):Int) (i:Int) out=some o/\prU o=if(s.drop i).all zeG=true then some (out++esc (s.drop i)) else none
 |0,i,out,hi,h,ho=>by omega
 |m+1,i,out,hi,h,ho=>by
  unfold zO wC
  by_cases hl:i<s.length
  ·have hw:IntKind.wrap .i64 ((i:Int)+1)=((i+1:Nat):Int):=by rw[wri (by omega) (by omega)];omega
   have hn:nth .u8 s (Int.toNat (i:Int))=s[i]:=by rw[Int.toNat_natCast];exact zkm (u:=.u8) hl
   simp only[zrQ hl,cond_true,xD hl,hn,hw,zsy,Option.bind_some]
   rw[drop_one hl,List.all_cons]
   cases ht:zeG s[i] with
   |false=>exact⟨_,rfl,by simp [prU]⟩
   |true=>
    simp only[Bool.not_true,cond_false,Bool.true_and]
    have b1:Nat.blt (out.length+1) zA=true:=ze2 (by omega)
    have b2:Nat.blt ((out++[(92:UInt8)]).length+1) zA=true:=ze2 (by simp;omega)
    have he:esc (s[i]::s.drop (i+1))=zpp s[i]++esc (s.drop (i+1)):=by unfold esc;rw[List.flatMap_cons]
    rw[he]
    by_cases c1:s[i]=34
    ·obtain⟨o,h1,h2⟩:=zd0 N hs m (i+1) (out++[92]++[s[i]]) (by omega) (by omega) (by simp;omega)
     refine⟨o,?_,?_⟩
     ·simp only[c1,beq_self_eq_true,cond_true,b1,b2] at h1 |-;exact h1
     ·rw[h2];simp [zpp,c1]
    ·by_cases c2:s[i]=92
     ·obtain⟨o,h1,h2⟩:=zd0 N hs m (i+1) (out++[92]++[s[i]]) (by omega) (by omega) (by simp;omega)
      refine⟨o,?_,?_⟩
      ·have:((92:UInt8)==34)=false:=rfl
       simp only[c2,this,beq_self_eq_true,cond_true,cond_false,b1,b2] at h1 |-;exact h1
      ·rw[h2];simp [zpp,c2]
     ·obtain⟨o,h1,h2⟩:=zd0 N hs m (i+1) (out++[s[i]]) (by omega) (by omega) (by simp;omega)
      refine⟨o,?_,?_⟩
      ·simp only[beq_eq_false_iff_ne.2 c1,beq_eq_false_iff_ne.2 c2,cond_false,b1,cond_true];exact h1
      ·rw[h2];simp [zpp,c1,c2]
  ·have hd:s.drop i=[]:=List.drop_of_length_le (by omega)
   simp only[zrP hl,cond_false]
   rw[hd]
   exact⟨_,rfl,by simp [prU,esc]⟩
theorem zlJ{s:List UInt8}(hs:s.length<=20000):j2 200000 s=some (match zg9 s with|some q=>(q,true,())|none=>([],false,())):=by
 unfold j2 zg9
 obtain⟨o,h1,h2⟩:=zd0 200000 hs 200000 0 [34] (Nat.zero_le _) (by omega) (by simp)
 rw[show((0:Nat):Int)=0 from rfl] at h1
 rw[h1,Option.bind_some]
 rw[List.drop_zero] at h2
 have hl:=zil s
 by_cases ha:s.all zeG=true
 ·rw[if_pos ha] at h2 |-
  cases o with
  |inl=>cases h2
  |inr q=>
   cases h2
   simp only[zw]
   have b1:Nat.blt (([34]++esc s:List UInt8).length+1) zA=true:=ze2 (by simp;omega)
   have b2:Nat.blt 0 ([34]++esc s++[34]:List UInt8).length=true:=by simp [Nat.blt_eq]
   have b3:Nat.blt ([34]++esc s++[34]:List UInt8).length zA=true:=ze2 (by simp;omega)
   rw[b1,b2,b3]
   simp
 ·rw[if_neg ha] at h2 |-
  cases o with
  |inl=>rfl
  |inr q=>cases h2
def zjW(s:List UInt8):List UInt8:=match zg9 s with|some q=>q|none=>zqo s
theorem zha{s q:List UInt8}(h:zg9 s=some q):q.length<=2*s.length+2:=by
 unfold zg9 at h
 split at h
 ·cases h;have:=zil s;simp;omega
 ·cases h
theorem zgN{s:List UInt8}(hs:s.length<=20000):wh 200000 s=some (zjW s,()):=by
 unfold wh zjW
 rw[zlJ hs,Option.bind_some]
 cases hq:zg9 s with
 |none=>simp only[cond_false,zny s (by omega),Option.bind_some]
 |some q=>
  have:=zha hq
  have b1:Nat.blt q.length zA=true:=ze2 (by omega)
  simp only[cond_true,b1]
theorem znx(b:List UInt8):(zqo b).length<=b.length+14:=by
 have:=zlm b.length
 unfold zqo;simp;omega
theorem zlb(s:List UInt8):(zjW s).length<=2*s.length+14:=by
 unfold zjW
 cases hq:zg9 s with
 |none=>have:=znx s;simp only;omega
 |some q=>have:=zha hq;simp only;omega
def zfa(s:List UInt8):List UInt8:=if s≠[]/\s.all zeF=true then s else zjW s
theorem zjB(N:Nat){s:List UInt8}(hs:s.length<=20000):∀ (m i:Nat),i<=s.length->s.length<m+i->zJ N m s ((s.length:Nat):Int) (i:Int)=some (if(s.drop i).all zeF=true then .inr () else .inl ())
 |0,i,hi,h=>by omega
 |m+1,i,hi,h=>by
  unfold zJ jR
  by_cases hl:i<s.length
  ·have hw:IntKind.wrap .i64 ((i:Int)+1)=((i+1:Nat):Int):=by rw[wri (by omega) (by omega)];omega
   have hn:nth .u8 s (Int.toNat (i:Int))=s[i]:=by rw[Int.toNat_natCast];exact zkm (u:=.u8) hl
   simp only[zrQ hl,cond_true,xD hl,hn,hw,ztW,Option.bind_some]
   rw[drop_one hl,List.all_cons]
   cases ht:zeF s[i] with
   |false=>simp
   |true=>simp only[Bool.not_true,cond_false,Bool.true_and];exact zjB N hs m (i+1) (by omega) (by omega)
  ·have hd:s.drop i=[]:=List.drop_of_length_le (by omega)
   simp only[zrP hl,cond_false]
   rw[hd];rfl
theorem zlS{s:List UInt8}(hs:s.length<=20000):qv 200000 s=some (zfa s,()):=by
 unfold qv zfa
 have b1:Nat.blt s.length zA=true:=ze2 (by omega)
 by_cases h0:s=[]
 ·have:(s != ([]:List UInt8))=false:=by simp [h0]
  rw[this,cond_false,b1,cond_true,zgN hs,if_neg (by simp [h0])];rfl
 ·have:(s != ([]:List UInt8))=true:=by simp [h0]
  have hL:=zjB 200000 hs 200000 0 (Nat.zero_le _) (by omega)
  rw[show((0:Nat):Int)=0 from rfl,List.drop_zero] at hL
  rw[this,cond_true,hL,Option.bind_some]
  by_cases ha:s.all zeF=true
  ·rw[if_pos ha,if_pos ⟨h0,ha⟩]
  ·rw[if_neg ha,if_neg (fun h=>ha h.2)]
   simp only[zw]
   rw[b1,cond_true,zgN hs];rfl
theorem zlR(s:List UInt8):(zfa s).length<=2*s.length+14:=by
 unfold zfa;split
 ·omega
 ·exact zlb s
def zsp:Option (List UInt8×Unit)->Option (List UInt8×Unit)->Bool
 |some (a,_),some (b,_)=>a==b&&Nat.ble a.length 70
 |_,_=>false
theorem zpS{a b:Option (List UInt8×Unit)}(h:zsp a b=true):∃ s:List UInt8,a=some (s,())/\b=some (s,())/\s.length<=70:=by
 unfold zsp at h
 split at h
 ·simp only[Bool.and_eq_true,beq_iff_eq] at h
  obtain⟨rfl,h2⟩:=h
  exact⟨_,rfl,rfl,Nat.le_of_ble_eq_true h2⟩
 ·cases h
theorem zos:((List.range 9).all fun n=>zsp (zL 200000 ((n:Nat):Int)) (wk 200000 ((n:Nat):Int)))=true:=by kernel_rfl
theorem zm7{n:Int}(h1:0<=n)(h2:n<=8):∃ s:List UInt8,zL 200000 n=some (s,())/\wk 200000 n=some (s,())/\s.length<=70:=by
 obtain⟨k,rfl⟩:∃ k:Nat,n=(k:Int):=⟨n.toNat,by omega⟩
 have:=zos
 rw[List.all_eq_true] at this
 exact zpS (this k (List.mem_range.2 (by omega)))
def okL(o:Option (List UInt8×Unit)):List UInt8:=match o with
 |some (s,_)=>s
 |none=>[]
def zjf(k:Int):List UInt8:=okL (zL 200000 k)
theorem zrK{k:Int}(h1:1<=k)(h2:k<=8):zL 200000 k=some (zjf k,())/\wk 200000 k=some (zjf k,())/\(zjf k).length<=70:=by
 obtain⟨s,a,b,c⟩:=zm7 (n:=k) (by omega) h2
 have:zjf k=s:=by unfold zjf okL;rw[a]
 rw[this];exact⟨a,b,c⟩
def zoQ(t:List UInt8):List UInt8×Bool:=
 if(zkG (t++[13,10])).2=0/\(zkG (t++[13,10])).1.getLast?=some (1,t) then(t++[13,10],true) else([],false)
def zrH(t:List UInt8):Option (List UInt8×Bool×Unit):=
 (cond ((Nat.ble (List.length t) jJ)&&true) (cond (decide (List.length t+List.length ([13,10]:List UInt8)<4611686018427387904)) (cond (Nat.blt (List.length (t++([13,10]:List UInt8))) zA) (Option.bind (zB 200000 (t++([13,10]:List UInt8))) fun y4=>(cond (decide ((0:Int)<y4.2.1)) (some (([]:List UInt8),false,())) (cond ((((List.length y4.1):Nat):Int)==(0:Int)) (some (([]:List UInt8),false,())) (cond (inb (IntKind.wrap .i64 ((((List.length y4.1):Nat):Int)-(1:Int))) (List.length y4.1)) (cond ((nth (.pair (.int .i64) (.sl .u8)) y4.1 (Int.toNat (IntKind.wrap .i64 ((((List.length y4.1):Nat):Int)-(1:Int))))).1 != (1:Int)) (some (([]:List UInt8),false,())) (cond ((nth (.pair (.int .i64) (.sl .u8)) y4.1 (Int.toNat (IntKind.wrap .i64 ((((List.length y4.1):Nat):Int)-(1:Int))))).2 != t) (some (([]:List UInt8),false,())) (some ((t++([13,10]:List UInt8)),true,())))) none)))) none) none) none)
theorem zqI(t:List UInt8)(fs:List Frm)(left:Nat)(hl:fs.length<=20000)(x:List UInt8)(hx:x=t)(o:List UInt8):
  (cond (decide ((0:Int)<(left:Int))) (some (([]:List UInt8),false,())) (cond ((((List.length fs):Nat):Int)==(0:Int)) (some (([]:List UInt8),false,())) (cond (inb (IntKind.wrap .i64 ((((List.length fs):Nat):Int)-(1:Int))) (List.length fs)) (cond ((nth (.pair (.int .i64) (.sl .u8)) fs (Int.toNat (IntKind.wrap .i64 ((((List.length fs):Nat):Int)-(1:Int))))).1 != (1:Int)) (some (([]:List UInt8),false,())) (cond ((nth (.pair (.int .i64) (.sl .u8)) fs (Int.toNat (IntKind.wrap .i64 ((((List.length fs):Nat):Int)-(1:Int))))).2 != x) (some (([]:List UInt8),false,())) (some (o,true,())))) none)))=some (if left=0/\fs.getLast?=some (1,t) then(o,true,()) else([],false,())):=by
 subst hx
 by_cases h0:left=0
 ·subst h0
  simp only[show decide ((0:Int)<((0:Nat):Int))=false from rfl,cond_false,true_and]
  by_cases hn:fs.length=0
  ·have:fs=[]:=List.length_eq_zero_iff.1 hn
   subst this
   rfl
  ·have hw:IntKind.wrap .i64 ((fs.length:Int)-1)=((fs.length-1:Nat):Int):=by rw[wri (by omega) (by omega)];omega
   have he:(((fs.length:Nat):Int)==(0:Int))=false:=beq_eq_false_iff_ne.2 (by omega)
   have hlt:fs.length-1<fs.length:=by omega
   have hnth:nth (.pair (.int .i64) (.sl .u8)) fs (Int.toNat ((fs.length-1:Nat):Int))=fs[fs.length-1]:=by rw[Int.toNat_natCast];exact zkm (u:=.pair (.int .i64) (.sl .u8)) hlt
   have hg:fs.getLast?=some fs[fs.length-1]:=by rw[List.getLast?_eq_getElem?];exact List.getElem?_eq_getElem hlt
   simp only[hw,he,cond_false,xD hlt,cond_true,hnth,hg]
   cases hf:fs[fs.length-1] with
   |mk a b=>
    by_cases ha:a=1
    ·subst ha
     by_cases hb:b=x
     ·subst hb;simp
     ·have:(b != x)=true:=by simp [hb]
      simp [this,hb]
    ·have:(a != 1)=true:=by simp [ha]
     simp [this,ha]
 ·have:decide ((0:Int)<(left:Int))=true:=decide_eq_true (by omega)
  rw[this,if_neg (fun h=>h0 h.1)];rfl
theorem zop{t:List UInt8}(h:t.length<=19000):zrH t=some ((zoQ t).1,(zoQ t).2,()):=by
 unfold zrH
 have hb:(t++[13,10]).length<=20000:=by simp;omega
 have c1:Nat.ble t.length jJ=true:=by simp [jJ];omega
 have c2:decide (List.length t+List.length ([13,10]:List UInt8)<4611686018427387904)=true:=decide_eq_true (by simp;omega)
 have c3:Nat.blt (t++[13,10]).length zA=true:=ze2 (by omega)
 rw[c1,c2,c3,zfK 200000 (by omega) (by omega)]
 simp only[Bool.and_true,cond_true,Option.bind_some]
 have:=zkH (t++[13,10])
 rw[zqI t _ _ (by omega) t rfl (t++[13,10])]
 unfold zoQ
 split<;>rfl
theorem zqN:Go.Lib.joinTail [32] ([]:List (List UInt8))=[]:=rfl
theorem zlI(y:List UInt8)(r:List (List UInt8)):Go.Lib.joinTail [32] (y::r)=[32]++y++Go.Lib.joinTail [32] r:=by simp [Go.Lib.joinTail]
def zr5(fs:List Frm):Nat:=(fs.filter fun fr=>fr.1==2).length
theorem zlf(fs:List Frm)(hfs:fs.length<=20000):∀ (m i c:Nat),i<=fs.length->fs.length<m+i->c<=i->zI 200000 m (c:Int) fs ((fs.length:Nat):Int) (i:Int)=some (((c+zr5 (fs.drop i):Nat):Int))
 |0,i,c,hi,h,hc=>by omega
 |m+1,i,c,hi,h,hc=>by
  unfold zI jP
  by_cases hl:i<fs.length
  ·have hw:IntKind.wrap .i64 ((i:Int)+1)=((i+1:Nat):Int):=by rw[wri (by omega) (by omega)];omega
   have hw2:IntKind.wrap .i64 ((c:Int)+1)=((c+1:Nat):Int):=by rw[wri (by omega) (by omega)];omega
   have hn:nth (.pair (.int .i64) (.sl .u8)) fs (Int.toNat (i:Int))=fs[i]:=by rw[Int.toNat_natCast];exact zkm (u:=.pair (.int .i64) (.sl .u8)) hl
   simp only[zrQ hl,cond_true,xD hl,hn,hw,hw2]
   rw[drop_one hl]
   unfold zr5
   by_cases h2:fs[i].1=2
   ·have:(fs[i].1==2)=true:=by simp [h2]
    rw[this,cond_true,zlf fs hfs m (i+1) (c+1) (by omega) (by omega) (by omega),List.filter_cons_of_pos (p:=fun fr:Frm=>fr.1==2) this]
    unfold zr5
    rw[List.length_cons];congr 2;omega
   ·have:(fs[i].1==2)=false:=by simp [h2]
    rw[this,cond_false,zlf fs hfs m (i+1) c (by omega) (by omega) (by omega),List.filter_cons_of_neg (p:=fun fr:Frm=>fr.1==2) (by simp [h2])]
    rfl
  ·have hd:fs.drop i=[]:=List.drop_of_length_le (by omega)
   simp only[zrP hl,cond_false]
   rw[hd];rfl
def zrh(m:List UInt8):El uS2:=([97],(5,(m,([],(0,(0,(false,(0,[]))))))))
def zbK(m:List UInt8):List UInt8:=[97,32,83,69,76,69,67,84,32]++zfa m
theorem zsz:zjf 5=[83,69,76,69,67,84]:=by kernel_rfl
theorem zhF{m:List UInt8}(hm:m.length<=9000):zG 200000 (zrh m)=some ((zoQ (zbK m)).1,(zoQ (zbK m)).2,()):=by
 have l1:=zlR m
 rw[<- zop (by unfold zbK;rw[List.length_append];simp only[List.length_cons,List.length_nil];omega)]
 obtain⟨b,hb,hbv⟩:=zkN [97] 5 m [] 0 0 false 0 [] (by decide)
 have hv:VP [97] 5 m [] 0 0 false 0 []:=⟨by kernel_rfl,by decide,by decide,by omega,by decide,by decide,.inl ⟨rfl,rfl,rfl,rfl,rfl,rfl,rfl⟩⟩
 have:=hbv.2 hv
 subst this
 obtain⟨w1,_,_⟩:=zrK (k:=5) (by decide) (by decide)
 have w3:=zlS (s:=m) (by omega)
 unfold zG zrh
 simp only[hb,Option.bind_some,Bool.not_true,cond_false,w1,beq_self_eq_true,cond_true,w3]
 have hT:Go.Lib.join [[97],zjf 5,zfa m] [32]=zbK m:=by
  unfold zbK
  rw[zsz,Go.Lib.join_cons,zlI,zlI,zqN];simp
 rw[hT];rfl
theorem zlq:∀ {p:List UInt8} (r:List UInt8),(∀ c ∈ p,c≠13)->zcI (p++13::10::r)=some p.length
 | [],r,h=>by
  show zcI (13::10::r)=some 0
  unfold zcI;rw[if_pos ⟨rfl,rfl⟩]
 |c::p,r,h=>by
  show zcI (c::(p++13::10::r))=some (p.length+1)
  unfold zcI
  rw[if_neg (fun e=>h c (List.mem_cons_self ..) e.1),zlq r fun x hx=>h x (List.mem_cons_of_mem _ hx)]
  rfl
theorem zfY:kR [] 0=([],0):=by kernel_rfl
theorem zoU(c:UInt8):∀ n,Go.Lib.repeatL [c] n=List.replicate n c
 |0=>rfl
 |n+1=>by
  unfold Go.Lib.repeatL
  rw[zoU c n,List.replicate_succ];rfl
theorem zjl{l:List UInt8}(h:l.getLast? ≠ some 125):zjU l=none:=by unfold zjU;rw[if_neg h]
theorem znS{t:List UInt8}(h13:∀ c ∈ t,c≠13)(hl:t.getLast? ≠ some 125):zoQ t=if t.length<=8192 then(t++[13,10],true) else([],false):=by
 have he:zcI ((t++[13,10]).drop 0)=some t.length:=by rw[List.drop_zero];exact zlq [] h13
 have hs:slice (t++[13,10]) 0 (0+t.length)=t:=by unfold slice;simp
 have hd:(t++[13,10]).drop (0+t.length+2)=[]:=List.drop_of_length_le (by simp)
 have ht:(t++[13,10]).take (0+t.length)=t:=by simp
 have hc:(kR (t++[13,10]) 0)=if t.length<=8192 then([(1,t)],0) else([(3,t.take 8192)],0):=by
  rw[wQ (Nat.zero_le _)]
  unfold zkT
  rw[he]
  simp only
  rw[hs,hd,ht,zjl hl]
  by_cases h:t.length<=8192
  ·rw[if_neg (show ¬ (8192<t.length) by omega),if_pos h]
   simp only
   rw[zfY]
  ·rw[if_pos (show 8192<t.length by omega),if_neg h]
   simp only
   rw[zfY]
 unfold zoQ
 rw[zeS,hc]
 by_cases h:t.length<=8192
 ·rw[if_pos h,if_pos h,if_pos ⟨rfl,rfl⟩]
 ·rw[if_neg h,if_neg h,if_neg (fun e=>by have:=e.2;simp at this)]
theorem zlZ{c x:UInt8}{n:Nat}(h:x ∈ List.replicate n c):x=c:=List.eq_of_mem_replicate h
theorem znu{p:List UInt8}{c:UInt8}{n:Nat}(h:0<n):(p++List.replicate n c).getLast?=some c:=by
 rw[List.getLast?_append,List.getLast?_replicate,if_neg (by omega)];rfl
theorem zsl{n:Nat}(h1:10<=n)(h2:n<=8193):zG 200000 (zrh (List.replicate (n-9) 120))=some (if n<=8192 then zbK (List.replicate (n-9) 120)++[13,10] else[],decide (n<=8192),())/\(zbK (List.replicate (n-9) 120)).length=n:=by
 have hm:zfa (List.replicate (n-9) 120)=List.replicate (n-9) 120:=by
  unfold zfa
  refine if_pos ⟨fun e=>?_,?_⟩
  ·have:=congrArg List.length e
   rw[List.length_replicate,List.length_nil] at this;omega
  ·rw[List.all_eq_true]
   intro c hc
   rw[zlZ hc];kernel_rfl
 have hL:(zbK (List.replicate (n-9) 120)).length=n:=by
  unfold zbK
  rw[hm,List.length_append,List.length_replicate]
  simp only[List.length_cons,List.length_nil];omega
 refine⟨?_,hL⟩
 rw[zhF (by rw[List.length_replicate];omega)]
 have ho:=znS (t:=zbK (List.replicate (n-9) 120)) (by
  unfold zbK
  rw[hm]
  intro c hc
  rcases List.mem_append.1 hc with hc|hc
  ·intro e;subst e;revert hc;decide
  ·rw[zlZ hc];decide) (by unfold zbK;rw[hm,znu (by omega)];decide)
 rw[ho,hL]
 by_cases h:n<=8192
 ·rw[if_pos h,if_pos h,decide_eq_true h]
 ·rw[if_neg h,if_neg h,decide_eq_false h]
theorem znl{n:Nat}(h:n=8191\/n=8192\/n=8193):zjU ([97,32,83,69,76,69,67,84,32,123]++dec n++[125])=some n/\(dec n).length=4/\∀ c ∈ dec n,c≠13:=by
 rcases h with rfl|rfl|rfl<;>exact⟨by kernel_rfl,by kernel_rfl,by decide⟩
theorem zsm{n:Nat}(h:n=8191\/n=8192\/n=8193):∃ T:List UInt8,T.length=n+17/\zG 200000 (zrh (List.replicate n 0))=some (T++[13,10],true,())/\zkG (T++[13,10])=([(2,[]),(1,T)],0):=by
 obtain⟨a1,a2,a3⟩:=znl h
 have hn:0<n:=by omega
 have hn2:n<=8193:=by omega
 have hr:List.replicate n (0:UInt8)≠[]:=fun e=>by
  have:=congrArg List.length e
  rw[List.length_replicate,List.length_nil] at this;omega
 have hall:∀ (p:UInt8->Bool),p 0=false->¬ (List.replicate n (0:UInt8)).all p=true:=fun p hp e=>by
  rw[List.all_eq_true] at e
  have:=e 0 (List.mem_replicate.2 ⟨by omega,rfl⟩)
  rw[hp] at this;cases this
 have hm:zfa (List.replicate n 0)=[123]++dec n++[125,13,10]++List.replicate n 0:=by
  unfold zfa
  rw[if_neg (fun e=>hall zeF (by kernel_rfl) e.2)]
  unfold zjW zg9
  rw[if_neg (hall zeG (by kernel_rfl))]
  unfold zqo
  rw[List.length_replicate]
 have hT:zbK (List.replicate n 0)=([97,32,83,69,76,69,67,84,32,123]++dec n++[125])++13::10::List.replicate n 0:=by
  unfold zbK;rw[hm];simp
 have hHl:([97,32,83,69,76,69,67,84,32,123]++dec n++[125]:List UInt8).length=15:=by
  rw[List.length_append,List.length_append,a2];rfl
 have hH13:∀ c ∈ ([97,32,83,69,76,69,67,84,32,123]++dec n++[125]:List UInt8),c≠13:=by
  intro c hc
  rcases List.mem_append.1 hc with hc|hc
  ·rcases List.mem_append.1 hc with hc|hc
   ·intro e;subst e;revert hc;decide
   ·exact a3 c hc
  ·rw[List.mem_singleton.1 hc];decide
 generalize([97,32,83,69,76,69,67,84,32,123]++dec n++[125]:List UInt8)=H at hT hHl hH13 a1
 have hTl:(zbK (List.replicate n 0)).length=n+17:=by
  rw[hT,List.length_append,hHl,List.length_cons,List.length_cons,List.length_replicate];omega
 have hp:=zhF (m:=List.replicate n 0) (by rw[List.length_replicate];omega)
 have hl:(List.replicate n (0:UInt8)).length=n:=List.length_replicate
 generalize List.replicate n (0:UInt8)=Z at hT hTl hp hl |-
 have hsp:zkG (zbK Z++[13,10])=([(2,[]),(1,zbK Z)],0):=by
  have hb:zbK Z++[13,10]=H++13::10::(Z++[13,10]):=by rw[hT];simp
  have he:zcI ((zbK Z++[13,10]).drop 0)=some 15:=by rw[List.drop_zero,hb,zlq _ hH13,hHl]
  have hs:slice (zbK Z++[13,10]) 0 (0+15)=H:=by
   unfold slice
   rw[List.drop_zero,hb,show 0+15-0=H.length by omega,List.take_left]
  have hd2:(zbK Z++[13,10]).drop (0+15+2+n)=[13,10]:=by
   rw[show 0+15+2+n=(zbK Z).length by omega,List.drop_left]
  have he2:zcI ((zbK Z++[13,10]).drop (0+15+2+n))=some 0:=by rw[hd2];rfl
  have hs2:slice (zbK Z++[13,10]) (0+15+2+n) (0+15+2+n+0)=[]:=by
   unfold slice;rw[show 0+15+2+n+0-(0+15+2+n)=0 by omega,List.take_zero]
  have ht:(zbK Z++[13,10]).take (0+15+2+n+0)=zbK Z:=by
   rw[show 0+15+2+n+0=(zbK Z).length by omega,List.take_left]
  have hlen:(zbK Z++[13,10]).length=n+19:=by rw[List.length_append,hTl];rfl
  have hd:(zbK Z++[13,10]).drop (0+15+2+n+0+2)=[]:=List.drop_of_length_le (by omega)
  rw[zeS,wQ (Nat.zero_le _)]
  unfold zkT
  rw[he]
  simp only
  rw[hs,if_neg (by omega),a1]
  simp only
  rw[if_neg (by omega)]
  simp only
  rw[wQ (by omega)]
  unfold zkT
  rw[he2]
  simp only
  rw[hs2,if_neg (by decide),zjl (by decide),ht,hd]
  simp only
  rw[zfY]
 refine⟨zbK Z,hTl,?_,hsp⟩
 rw[hp]
 unfold zoQ
 rw[hsp,if_pos ⟨rfl,rfl⟩]
theorem znz(p:UInt8):qe 200000 p=some (true,()):=by
 have hp:=p.toNat_lt
 have h3:p.toNat % 3<3:=Nat.mod_lt _ (by decide)
 have e0:IntKind.wrap .i64 ((8191:Int)+(Int.tmod (IntKind.wrap .i64 ((UInt8.toNat p:Nat):Int)) (3:Int)))=((8191+p.toNat % 3:Nat):Int):=by
  rw[wri (x:=((UInt8.toNat p:Nat):Int)) (by omega) (by omega),show Int.tmod ((UInt8.toNat p:Nat):Int) 3=((p.toNat % 3:Nat):Int) from rfl,wri (by omega) (by omega)];omega
 unfold qe
 simp only[e0]
 have hn:(8191+p.toNat % 3=8191\/8191+p.toNat % 3=8192\/8191+p.toNat % 3=8193):=by omega
 generalize 8191+p.toNat % 3=n at hn
 have e1:IntKind.wrap .i64 ((n:Int)-9)=((n-9:Nat):Int):=by rw[wri (by omega) (by omega)];omega
 have e2:IntKind.wrap .i64 ((n:Int)+2)=((n+2:Nat):Int):=by rw[wri (by omega) (by omega)];omega
 obtain⟨p1,p2⟩:=zsl (n:=n) (by omega) (by omega)
 obtain⟨T,t1,t2,t3⟩:=zsm hn
 have g1:decide ((0:Int)<=((n-9:Nat):Int))=true:=decide_eq_true (by omega)
 have g2:decide (((n-9:Nat):Int)<=(140737488355328:Int))=true:=decide_eq_true (by omega)
 have g3:Nat.ble (List.length ([120]:List UInt8)*(n-9)) jJ=true:=by simp [jJ];omega
 have g4:decide ((0:Int)<=(n:Int))=true:=decide_eq_true (by omega)
 have g5:decide ((n:Int)<=(140737488355328:Int))=true:=decide_eq_true (by omega)
 have g6:Nat.ble (List.length ([0]:List UInt8)*n) jJ=true:=by simp [jJ];omega
 have hlen:(T++[13,10]).length=n+19:=by rw[List.length_append,t1];rfl
 have g7:decide ((n:Int)<(((T++[13,10]).length:Nat):Int))=true:=decide_eq_true (by omega)
 have hL:=zlf (zkG (T++[13,10])).1 (by rw[t3];simp) 200000 0 0 (Nat.zero_le _) (by rw[t3];simp) (by omega)
 have hq:zX 200000 (zrh (List.replicate n 0))=some (1,()):=by
  unfold zX
  rw[t2]
  simp only[Option.bind_some,Bool.not_true,cond_false]
  rw[zfK 200000 (by omega) (by omega)]
  simp only[Option.bind_some]
  rw[show((0:Nat):Int)=0 from rfl,List.drop_zero,Nat.zero_add] at hL
  rw[hL,t3];rfl
 simp only[e1,e2,Int.toNat_natCast,g1,g2,g3,g4,g5,g6,zoU,Bool.and_self,cond_true]
 have p1':zG 200000 ([97],(5,(List.replicate (n-9) 120,([],(0,(0,(false,(0,[]))))))))=_:=p1
 have t2':zG 200000 ([97],(5,(List.replicate n 0,([],(0,(0,(false,(0,[]))))))))=_:=t2
 have hq':zX 200000 ([97],(5,(List.replicate n 0,([],(0,(0,(false,(0,[]))))))))=_:=hq
 simp only[p1',t2',Option.bind_some,hq',g7,cond_true]
 have hi:decide ((n:Int)<=(8192:Int))=decide (n<=8192):=by
  by_cases h:n<=8192
  ·rw[decide_eq_true h,decide_eq_true (by omega)]
  ·rw[decide_eq_false h,decide_eq_false (by omega)]
 rw[hi]
 by_cases h:n<=8192
 ·have hl2:((((zbK (List.replicate (n-9) 120)++[13,10]).length:Nat):Int)==((n+2:Nat):Int))=true:=by
   rw[beq_iff_eq,List.length_append,p2];rfl
  rw[decide_eq_true h,if_pos h,hl2];rfl
 ·rw[decide_eq_false h,if_neg h];rfl
end Go.Proofs.Model
