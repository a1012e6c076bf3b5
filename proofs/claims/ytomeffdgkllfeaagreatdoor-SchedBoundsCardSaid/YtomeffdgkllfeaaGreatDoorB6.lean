/- Machines and laws 6. -/
import Derived.Test.YtomeffdgkllfeaaGreatDoorB5
set_option linter.unusedVariables false
set_option linter.unusedSimpArgs false
set_option maxRecDepth 100000
namespace Go.Proofs.Model
open Go Go.Gx Go.Mx Go.Sx
def dg(c:UInt8):Prop:=48<=c.toNat/\c.toNat<=57
instance (c:UInt8):Decidable (dg c):=inferInstanceAs (Decidable (_/\_))
theorem zk8:∀ (l:List UInt8) (acc v:Nat),zhs acc l=some v->∀ c ∈ l,dg c
 | [],_,_,_,c,h=>by cases h
 |a::r,acc,v,h,c,hc=>by
  unfold zhs at h
  split at h
  ·rename_i hd
   rcases List.mem_cons.1 hc with rfl|hc
   ·exact hd
   ·exact zk8 r _ v h c hc
  ·cases h
theorem znP{s:List UInt8}{v:Nat}(h:zcl s=some v):∀ c ∈ s,dg c:=by
 unfold zcl at h
 split at h
 ·rename_i w hw
  exact zk8 s 0 w hw
 ·cases h
def jS(c:UInt8)(l:List UInt8):Nat->Option Nat
 |0=>none
 |k+1=>if l[k]?=some c then some k else jS c l k
theorem jW{c:UInt8}{l:List UInt8}:∀ {k j:Nat},jS c l k=some j->j<k/\l[j]?=some c/\∀ i,j<i->i<k->l[i]? ≠ some c
 |0,j,h=>by cases h
 |k+1,j,h=>by
  unfold jS at h
  split at h
  ·rename_i hc
   cases h
   exact⟨by omega,hc,fun i h1 h2=>by omega⟩
  ·rename_i hc
   obtain⟨h1,h2,h3⟩:=jW h
   refine⟨by omega,h2,fun i h4 h5=>?_⟩
   by_cases e:i=k
   ·subst e;exact hc
   ·exact h3 i h4 (by omega)
theorem zdI{c:UInt8}{l:List UInt8}:∀ {k:Nat},jS c l k=none->∀ i,i<k->l[i]? ≠ some c
 |0,h,i,hi=>by omega
 |k+1,h,i,hi=>by
  unfold jS at h
  split at h
  ·cases h
  ·rename_i hc
   by_cases e:i=k
   ·subst e;exact hc
   ·exact zdI h i (by omega)
def zg3(l:List UInt8):Nat->Nat
 |0=>0
 |k+1=>if ∃ c,l[k]?=some c/\dg c then zg3 l k else k+1
theorem zcZ(l:List UInt8):∀ k,zg3 l k<=k/\(∀ j,zg3 l k<=j->j<k->∃ c,l[j]?=some c/\dg c)/\(∀ r,zg3 l k=r+1->¬ ∃ c,l[r]?=some c/\dg c)
 |0=>⟨Nat.le_refl _,fun j h h'=>by omega,fun r h=>by cases h⟩
 |k+1=>by
  obtain⟨h1,h2,h3⟩:=zcZ l k
  unfold zg3
  split
  ·rename_i hc
   refine⟨by omega,fun j q1 q2=>?_,h3⟩
   by_cases e:j=k
   ·subst e;exact hc
   ·exact h2 j q1 (by omega)
  ·rename_i hc
   refine⟨Nat.le_refl _,fun j q1 q2=>by omega,fun r e=>?_⟩
   cases e;exact hc
theorem znX{l:List UInt8}{k j:Nat}(hj:j<=k)(h1:∀ i,j<=i->i<k->∃ c,l[i]?=some c/\dg c)(h2:∀ r,j=r+1->¬ ∃ c,l[r]?=some c/\dg c):zg3 l k=j:=by
 obtain⟨q1,q2,q3⟩:=zcZ l k
 rcases Nat.lt_trichotomy (zg3 l k) j with h|h|h
 ·obtain⟨r,rfl⟩:∃ r,j=r+1:=⟨j-1,by omega⟩
  exact absurd (q2 r (by omega) (by omega)) (h2 r rfl)
 ·exact h
 ·obtain⟨r,hr⟩:∃ r,zg3 l k=r+1:=⟨zg3 l k-1,by omega⟩
  exact absurd (h1 r (by omega) (by omega)) (q3 r hr)
def zh0(l:List UInt8):Option Nat:=if l.getLast?=some 125 then match jS 123 l (l.length-1) with
 |some j=>zcl (slice l (j+1) (l.length-1))
 |none=>none
 else none
def zmu(o:Option Nat):Option (Int×Bool×Unit):=some (match o with
 |some v=>(((v:Nat):Int),true,())
 |none=>(0,false,()))
theorem zj7(s:List UInt8):znO s=zmu (zcl s):=rfl
theorem wrap32{v:Nat}(h:v<=4294967295):IntKind.wrap .i64 (v:Int)=v:=wri (by omega) (by omega)
theorem zjJ(N:Nat){l:List UInt8}(hl:l.length<=1000000)(c:UInt8):∀ (k m:Nat),k<=l.length->k<m->zi N m l c ((k:Int)-1)=some (match jS c l k with|some j=>.inl (j:Int)|none=>.inr ())
 |0,m,_,h=>by
  obtain⟨m,rfl⟩:∃ q,m=q+1:=⟨m-1,by omega⟩
  unfold zi zG
  rw[show decide ((0:Int)<=((0:Nat):Int)-1)=false by decide]
  rfl
 |k+1,m,hk,h=>by
  obtain⟨m,rfl⟩:∃ q,m=q+1:=⟨m-1,by omega⟩
  have ih:=zjJ N hl c k m (by omega) (by omega)
  unfold zi zG
  rw[show(((k+1:Nat):Int)-1)=((k:Nat):Int) by omega,decide_eq_true (by omega:(0:Int)<=(k:Int)),cond_true,wY (by omega),cond_true,Int.toNat_natCast,zg0 (u:=.u8) (by omega:k<l.length),wri (by omega) (by omega),ih]
  rw[show jS c l (k+1)=if l[k]?=some c then some k else jS c l k from rfl,List.getElem?_eq_getElem (by omega:k<l.length)]
  by_cases e:l[k]=c
  ·simp [e]
  ·rw[beq_eq_false_iff_ne.2 e,cond_false,if_neg (by simp [e])]
theorem zjK(N:Nat){l:List UInt8}(hl:l.length<=1000000)(hN:l.length<N)(c:UInt8):zV N l c=some (match jS c l l.length with|some j=>(j:Int)|none=>-1,()):=by
 unfold zV qa
 rw[wri (by omega) (by omega),zjJ N hl c l.length N (Nat.le_refl _) hN,Option.bind_some]
 cases jS c l l.length<;>rfl
theorem zdJ{c:UInt8}{l:List UInt8}{n:Nat}:∀ {k:Nat},k<=n->jS c (l.take n) k=jS c l k
 |0,_=>rfl
 |k+1,h=>by
  rw[show jS c (l.take n) (k+1)=if(l.take n)[k]?=some c then some k else jS c (l.take n) k from rfl,show jS c l (k+1)=if l[k]?=some c then some k else jS c l k from rfl,List.getElem?_take_of_lt (show k<n by omega),zdJ (by omega)]
theorem zhq(N:Nat){l:List UInt8}(hl:l.length<=1000000):qx N l [125]=some (if l.getLast?=some 125 then(l.take (l.length-1),true,()) else(l,false,())):=by
 unfold qx jk kd
 cases hc:l.length with
 |zero=>
  have:l=[]:=List.length_eq_zero_iff.1 hc
  subst this
  rfl
 |succ n=>
  have hw:IntKind.wrap .i64 (((n+1:Nat):Int)-(1:Int))=(n:Int):=by rw[show(((n+1:Nat):Int)-1)=(n:Int) by omega];exact wri (by omega) (by omega)
  have hd:zcC l n=[l[n]'(by omega)]:=by
   rw[zaA,drop_one (by omega),List.drop_of_length_le (by omega)]
  have hgl:l.getLast?=some (l[n]'(by omega)):=by rw[List.getLast?_eq_getElem?,show l.length-1=n by omega,List.getElem?_eq_getElem]
  simp only[List.length_cons,List.length_nil,Nat.zero_add,hc]
  rw[show decide (((1:Nat):Int)<=((n+1:Nat):Int))=true by simp;omega,cond_true]
  simp only[show(((1:Nat):Int))=(1:Int) from rfl,hw,zcy (show n<=l.length by omega),Bool.and_true,cond_true,Int.toNat_natCast,hd,Option.bind_some,hgl,Option.some.injEq]
  by_cases e:l[n]'(by omega)=125
  ·simp only[e,beq_self_eq_true,Bool.not_true,cond_false,if_true]
   rw[show jD (0:Int) (n:Int) (n+1)=true from kI (a:=0) (Nat.zero_le _) (by omega),jq]
   rfl
  ·have:([l[n]'(by omega)]==[(125:UInt8)])=false:=by simp [e]
   simp only[this,Bool.not_false,cond_true,e,if_false]
theorem zlo(N:Nat){l:List UInt8}(hl:l.length<=100000)(hN:l.length<N)(hN2:10<=N):qz N l=zmu (zh0 l):=by
 unfold qz
 rw[zhq N (by omega),Option.bind_some]
 unfold zh0
 by_cases h:l.getLast?=some 125
 ·rw[if_pos h,if_pos h]
  have hlt:(l.take (l.length-1)).length=l.length-1:=by rw[List.length_take];omega
  simp only[Bool.not_true,cond_false]
  rw[zjK N (by omega) (by omega),hlt,zdJ (Nat.le_refl _),Option.bind_some]
  cases hj:jS 123 l (l.length-1) with
  |none=>rfl
  |some j=>
   obtain⟨h1,h2,h3⟩:=jW hj
   simp only
   rw[decide_eq_false (by omega),cond_false,wri (by omega) (by omega),show((j:Int)+1)=((j+1:Nat):Int) by omega,zcy (by omega),Int.toNat_natCast]
   simp only[Bool.and_true,cond_true]
   have hs:zcC (l.take (l.length-1)) (j+1)=slice l (j+1) (l.length-1):=by rw[zaA,List.drop_take];rfl
   rw[hs,zlR N hN2 _ (by have:=@qM _ l (j+1) (l.length-1);omega),zj7]
   cases hn:zcl (slice l (j+1) (l.length-1)) with
   |none=>rfl
   |some v=>
    simp only[zmu,Option.bind_some]
    rw[wrap32 (zj8 hn)]
 ·rw[if_neg h,if_neg h]
  rfl
theorem zkj(N:Nat){l:List UInt8}(hl:l.length<=1000000)(x2:Int):∀ (k m:Nat),k<=l.length->k<m->zB N m l x2 (k:Int)=some (l,x2,((zg3 l k:Nat):Int))
 |0,m,_,h=>by
  obtain⟨m,rfl⟩:∃ q,m=q+1:=⟨m-1,by omega⟩
  rfl
 |k+1,m,hk,h=>by
  obtain⟨m,rfl⟩:∃ q,m=q+1:=⟨m-1,by omega⟩
  have ih:=zkj N hl x2 k m (by omega) (by omega)
  have hk':k<l.length:=by omega
  unfold zB jj
  rw[decide_eq_true (by omega:(0:Int)<((k+1:Nat):Int)),cond_true,wri (by omega) (by omega),show(((k+1:Nat):Int)-1)=(k:Int) by omega,wY hk']
  simp only[cond_true,Int.toNat_natCast,zg0 (u:=.u8) hk',ih]
  rw[show zg3 l (k+1)=if ∃ c,l[k]?=some c/\dg c then zg3 l k else k+1 from rfl,List.getElem?_eq_getElem hk']
  by_cases e1:(48:UInt8)<=l[k]
  ·by_cases e2:l[k]<=(57:UInt8)
   ·rw[if_pos ⟨_,rfl,e1,e2⟩]
    simp [e1,e2]
   ·rw[if_neg (fun⟨c,h1,h2⟩=>by cases h1;exact e2 h2.2)]
    simp [e1,e2]
  ·rw[if_neg (fun⟨c,h1,h2⟩=>by cases h1;exact e1 h2.1)]
   simp [e1]
theorem zna(N:Nat){l:List UInt8}(hl:l.length<=100000)(hN:l.length<N)(hN2:20<=N):qA N l=zmu (zh0 l):=by
 unfold qA
 rw[wri (by omega) (by omega)]
 cases hc:l.length with
 |zero=>
  have:l=[]:=List.length_eq_zero_iff.1 hc
  subst this
  rfl
 |succ n=>
  have hn:n<l.length:=by omega
  have hgl:l.getLast?=some (l[n]'(by omega)):=by rw[List.getLast?_eq_getElem?,show l.length-1=n by omega,List.getElem?_eq_getElem]
  rw[show(((n+1:Nat):Int)-1)=(n:Int) by omega,decide_eq_false (by omega),cond_false,wY (by omega),cond_true,Int.toNat_natCast,zg0 (u:=.u8) hn]
  unfold zh0
  rw[hgl,hc,Nat.add_sub_cancel]
  by_cases e:l[n]'(by omega)=125
  ·obtain⟨r1,r2,r3⟩:=zcZ l n
   rw[if_pos (by rw[e]),zkj N (by omega) _ n N (by omega) (by omega),Option.bind_some]
   have hb:(l[n]'(by omega) != 125)=false:=by simp [e]
   rw[hb,cond_false]
   simp only
   rw[kI r1 (by omega),znQ N hN2]
   simp only[Bool.and_true,cond_true,Int.toNat_natCast]
   have key:∀ j v,jS 123 l n=some j->zcl (slice l (j+1) n)=some v->zg3 l n=j+1:=fun j v hj hv=>by
    obtain⟨h1,h2,h3⟩:=jW hj
    have hd:=znP hv
    refine znX (by omega) (fun i q1 q2=>?_) fun r er=>?_
    ·have hi:i<l.length:=by omega
     refine⟨l[i],List.getElem?_eq_getElem hi,hd _ ?_⟩
     rw[List.mem_iff_getElem?]
     refine⟨i-(j+1),?_⟩
     unfold slice
     rw[List.getElem?_take,if_pos (by omega),List.getElem?_drop,show j+1+(i-(j+1))=i by omega,List.getElem?_eq_getElem hi]
    ·cases er
     rintro⟨c,h4,h5⟩
     rw[h2] at h4;cases h4
     exact absurd h5 (by decide)
   cases hv:zcl (slice l (zg3 l n) n) with
   |none=>
    simp only[znO,hv,Option.bind_some,Bool.not_false,cond_true]
    cases hj:jS 123 l n with
    |none=>rfl
    |some j=>
     simp only
     cases hw:zcl (slice l (j+1) n) with
     |none=>rfl
     |some v=>
      rw[key j v hj hw,hw] at hv;cases hv
   |some v=>
    simp only[znO,hv,Option.bind_some,Bool.not_true,cond_false]
    cases hr:zg3 l n with
    |zero=>
     rw[show(((0:Nat):Int)==0)=true from rfl,cond_true]
     cases hj:jS 123 l n with
     |none=>rfl
     |some j=>
      obtain⟨h1,h2,h3⟩:=jW hj
      obtain⟨c,h4,h5⟩:=r2 j (by omega) h1
      rw[h2] at h4;cases h4
      exact absurd h5 (by decide)
    |succ r=>
     have hrl:r<l.length:=by omega
     rw[show((((r+1:Nat):Int))==0)=false by simp;omega,cond_false,wri (by omega) (by omega),show(((r+1:Nat):Int)-1)=(r:Int) by omega,wY (by omega),cond_true,Int.toNat_natCast,zg0 (u:=.u8) hrl]
     by_cases e3:l[r]=123
     ·have hj:jS 123 l n=some r:=by
       cases hj:jS 123 l n with
       |none=>exact absurd (by rw[List.getElem?_eq_getElem hrl,e3]) (zdI hj r (by omega))
       |some j=>
        obtain⟨h1,h2,h3⟩:=jW hj
        rcases Nat.lt_trichotomy j r with q|q|q
        ·exact absurd (by rw[List.getElem?_eq_getElem hrl,e3]) (h3 r q (by omega))
        ·rw[q]
        ·obtain⟨c,h4,h5⟩:=r2 j (by omega) h1
         rw[h2] at h4;cases h4
         exact absurd h5 (by decide)
      rw[hj]
      simp only
      rw[hr] at hv
      have hb3:(l[r] != 123)=false:=by simp [e3]
      rw[hv,hb3,cond_false,wrap32 (zj8 hv)]
      rfl
     ·have hb3:(l[r] != 123)=true:=by simp [e3]
      rw[hb3,cond_true]
      cases hj:jS 123 l n with
      |none=>rfl
      |some j=>
       simp only
       cases hw:zcl (slice l (j+1) n) with
       |none=>rfl
       |some v'=>
        have:=key j v' hj hw
        rw[hr] at this;cases this
        obtain⟨h1,h2,h3⟩:=jW hj
        rw[List.getElem?_eq_getElem hrl] at h2
        exact absurd (Option.some.inj h2) e3
  ·have hb:(l[n]'(by omega) != 125)=true:=by simp [e]
   rw[hb,cond_true,if_neg (by simp [e])]
   rfl
abbrev Frm:=Int×List UInt8
def zgp(b:List UInt8):Nat->Nat->List Frm×Option Nat
 |0,_=>([],none)
 |m+1,f=>if f<=b.length then match za8 (b.drop f) with
  |none=>([],none)
  |some e=>if 8192<(slice b f (f+e)).length then([(3,(slice b f (f+e)).take 8192)],some (f+e+2)) else match zh0 (slice b f (f+e)) with
   |none=>([(1,b.take (f+e))],some (f+e+2))
   |some n=>if 65536<n then([(4,b.take (f+e))],some (f+e+2)) else((2,[])::(zgp b m (f+e+2+n)).1,(zgp b m (f+e+2+n)).2)
  else([],none)
theorem kk(b:List UInt8){f:Nat}(h:b.length<f):∀ m,zgp b m f=([],none)
 |0=>rfl
 |m+1=>by unfold zgp;rw[if_neg (by omega)]
theorem zfa{b:List UInt8}{f e:Nat}(h:za8 (b.drop f)=some e):f+e+2<=b.length:=by
 have:=zgu h;rw[List.length_drop] at this;omega
theorem ze5(b:List UInt8):∀ (m m' f:Nat),b.length<m+f->b.length<m'+f->zgp b m f=zgp b m' f
 |0,m',f,h,h'=>by rw[kk b (by omega),kk b (by omega)]
 |m+1,0,f,h,h'=>by rw[kk b (by omega),kk b (by omega)]
 |m+1,m'+1,f,h,h'=>by
  unfold zgp
  split
  ·cases he:za8 (b.drop f) with
   |none=>rfl
   |some e=>
    simp only
    split
    ·rfl
    ·cases hn:zh0 (slice b f (f+e)) with
     |none=>rfl
     |some n=>simp only;rw[ze5 b m m' (f+e+2+n) (by omega) (by omega)]
  ·rfl
theorem zd9(b:List UInt8):∀ (m f:Nat),f<=b.length->(zgp b m f).1.length+f<=b.length/\∀ k,(zgp b m f).2=some k->(zgp b m f).1.length+f<=k/\f+2<=k/\k<=b.length
 |0,f,hf=>⟨by simp [zgp];omega,fun k h=>by cases h⟩
 |m+1,f,hf=>by
  unfold zgp
  rw[if_pos hf]
  cases he:za8 (b.drop f) with
  |none=>exact⟨by simp;omega,fun k h=>by cases h⟩
  |some e=>
   have:=zfa he
   simp only
   split
   ·exact⟨by simp;omega,fun k h=>by cases h;simp;omega⟩
   ·cases hn:zh0 (slice b f (f+e)) with
    |none=>exact⟨by simp;omega,fun k h=>by cases h;simp;omega⟩
    |some n=>
     simp only
     split
     ·exact⟨by simp;omega,fun k h=>by cases h;simp;omega⟩
     ·by_cases hg:f+e+2+n<=b.length
      ·obtain⟨h1,h2⟩:=zd9 b m (f+e+2+n) hg
       exact⟨by simp only[List.length_cons];omega,fun k h=>by have:=h2 k h;simp only[List.length_cons];omega⟩
      ·rw[kk b (by omega)]
       exact⟨by simp;omega,fun k h=>by cases h⟩
def zb3(b:List UInt8)(f:Nat):List Frm×Option Nat:=zgp b (b.length+1) f
theorem zji(b:List UInt8){f:Nat}(hf:f<=b.length):zb3 b f=match za8 (b.drop f) with
  |none=>([],none)
  |some e=>if 8192<(slice b f (f+e)).length then([(3,(slice b f (f+e)).take 8192)],some (f+e+2)) else match zh0 (slice b f (f+e)) with
   |none=>([(1,b.take (f+e))],some (f+e+2))
   |some n=>if 65536<n then([(4,b.take (f+e))],some (f+e+2)) else((2,[])::(zb3 b (f+e+2+n)).1,(zb3 b (f+e+2+n)).2):=by
 unfold zb3
 rw[show zgp b (b.length+1) f=_ from rfl]
 conv=>lhs;unfold zgp
 rw[if_pos hf]
 cases he:za8 (b.drop f) with
 |none=>rfl
 |some e=>
  simp only
  split
  ·rfl
  ·cases hn:zh0 (slice b f (f+e)) with
   |none=>rfl
   |some n=>simp only;rw[ze5 b b.length (b.length+1) (f+e+2+n) (by omega) (by omega)]
def zm0:Nat->List UInt8->List Frm×Nat
 |0,b=>([],b.length)
 |m+1,b=>match(zb3 b 0).2 with
  |none=>((zb3 b 0).1,b.length)
  |some k=>((zb3 b 0).1++(zm0 m (b.drop k)).1,(zm0 m (b.drop k)).2)
theorem zf8:∀ (m m':Nat) (b:List UInt8),b.length<m->b.length<m'->zm0 m b=zm0 m' b
 |0,_,b,h,_=>by omega
 |m+1,0,b,_,h=>by omega
 |m+1,m'+1,b,h,h'=>by
  unfold zm0
  cases hc:(zb3 b 0).2 with
  |none=>rfl
  |some k=>
   have:=(zd9 b (b.length+1) 0 (Nat.zero_le _)).2 k hc
   simp only
   rw[zf8 m m' (b.drop k) (by rw[List.length_drop];omega) (by rw[List.length_drop];omega)]
def zkR(b:List UInt8):List Frm×Nat:=zm0 (b.length+1) b
def kM(b:List UInt8)(f:Nat):List Frm×Nat:=match(zb3 b f).2 with
 |none=>((zb3 b f).1,b.length)
 |some k=>((zb3 b f).1++(zkR (b.drop k)).1,(zkR (b.drop k)).2)
theorem zhm(b:List UInt8):zkR b=kM b 0:=by
 unfold zkR kM
 rw[show zm0 (b.length+1) b=_ from rfl]
 conv=>lhs;unfold zm0
 cases hc:(zb3 b 0).2 with
 |none=>rfl
 |some k=>
  have:=(zd9 b (b.length+1) 0 (Nat.zero_le _)).2 k hc
  simp only
  unfold zkR
  rw[zf8 b.length ((b.drop k).length+1) (b.drop k) (by rw[List.length_drop];omega) (by omega)]
def zgr:(Int×List Frm) ⊕ List Frm->List Frm×Int
 |.inl a=>(a.2,a.1)
 |.inr b=>(b,-1)
def zlq:Option Nat->Int
 |none=>-1
 |some k=>(k:Int)
theorem zjj(N:Nat){b:List UInt8}(hb:b.length<=100000)(hN:b.length<N)(hN2:20<=N):∀ (m f:Nat) (out:List Frm),0<m->b.length<m+f->out.length<=f->f<=200000->∃ o,zC N m b (f:Int) out=some o/\zgr o=(out++(zb3 b f).1,zlq (zb3 b f).2)
 |0,f,out,hm,h,ho,hf2=>by omega
 |m+1,f,out,hm,h,ho,hf2=>by
  unfold zC jx
  by_cases hf:f<=b.length
  ·rw[decide_eq_true (by omega:(f:Int)<=((b.length:Nat):Int)),cond_true,znm N (by omega) hN hf,Option.bind_some,zji b hf]
   cases he:za8 (b.drop f) with
   |none=>exact⟨_,rfl,by simp [zgr,zlq]⟩
   |some e=>
    have hle:=zfa he
    have hsl:(slice b f (f+e)).length<=b.length:=qM
    simp only
    rw[decide_eq_false (by omega),cond_false,kI (by omega) (by omega)]
    simp only[Bool.and_true,cond_true,Int.toNat_natCast]
    have hlo:Nat.blt (out.length+1) jh=true:=ze2 (by omega)
    by_cases h8:8192<(slice b f (f+e)).length
    ·have hb2:jD (0:Int) (8192:Int) (slice b f (f+e)).length=true:=kI (a:=0) (b:=8192) (by omega) (by omega)
     have hb3:Nat.blt (0+(slice (slice b f (f+e)) 0 8192).length) jh=true:=ze2 (by have:=@qM _ (slice b f (f+e)) 0 8192;omega)
     rw[decide_eq_true (by omega),cond_true,hb2,hb3,hlo,if_pos h8]
     simp only[cond_true,Bool.and_true]
     rw[wri (by omega) (by omega)]
     refine⟨_,rfl,?_⟩
     simp only[zgr,zlq,jq,List.nil_append]
     congr 1
    ·rw[decide_eq_false (by omega),cond_false,zna N (by omega) (by omega) hN2,if_neg h8]
     cases hn:zh0 (slice b f (f+e)) with
     |none=>
      have hb2:jD (0:Int) ((f+e:Nat):Int) b.length=true:=kI (a:=0) (by omega) (by omega)
      have hb3:Nat.blt (0+(slice b 0 (f+e)).length) jh=true:=ze2 (by have:=@qM _ b 0 (f+e);omega)
      simp only[zmu,Option.bind_some,Bool.not_false,cond_true,hb2,hb3,hlo,Bool.and_true]
      rw[wri (by omega) (by omega)]
      refine⟨_,rfl,?_⟩
      simp only[zgr,zlq,jq,List.nil_append]
      congr 1
     |some n=>
      simp only[zmu,Option.bind_some,Bool.not_true,cond_false]
      by_cases hn6:65536<n
      ·have hb2:jD (0:Int) ((f+e:Nat):Int) b.length=true:=kI (a:=0) (by omega) (by omega)
       have hb3:Nat.blt (0+(slice b 0 (f+e)).length) jh=true:=ze2 (by have:=@qM _ b 0 (f+e);omega)
       rw[decide_eq_true (by omega),cond_true,hb2,hb3,hlo,if_pos hn6]
       simp only[cond_true,Bool.and_true]
       rw[wri (by omega) (by omega)]
       refine⟨_,rfl,?_⟩
       simp only[zgr,zlq,jq,List.nil_append]
       congr 1
      ·rw[decide_eq_false (by omega),cond_false,hlo,cond_true,if_neg hn6,wri (x:=((f+e:Nat):Int)+2) (by omega) (by omega),wri (by omega) (by omega),show(((f+e:Nat):Int)+2+(n:Int))=((f+e+2+n:Nat):Int) by omega]
       obtain⟨o,h1,h2⟩:=zjj N hb hN hN2 m (f+e+2+n) (out++[(2,[])]) (by omega) (by omega) (by simp;omega) (by omega)
       exact⟨o,h1,by rw[h2];simp⟩
  ·rw[decide_eq_false (by omega),cond_false]
   refine⟨_,rfl,?_⟩
   unfold zb3
   rw[kk b (by omega)]
   simp [zgr,zlq]
theorem zng(N:Nat){b:List UInt8}(hb:b.length<=100000)(hN:b.length<N)(hN2:20<=N):qY N b=some ((zb3 b 0).1,zlq (zb3 b 0).2,()):=by
 unfold qY
 obtain⟨o,h1,h2⟩:=zjj N hb hN hN2 N 0 [] (by omega) (by omega) (by simp) (by omega)
 rw[show((0:Nat):Int)=0 from rfl] at h1
 rw[h1,Option.bind_some]
 cases o<;>(simp only[zgr,List.nil_append,Prod.mk.injEq] at h2;simp only[wQ,h2.1,h2.2])
theorem zf6(N C:Nat)(hC:C<=100000)(hN:C<N)(hN2:20<=N):∀ (m:Nat) (b:List UInt8) (out:List Frm),b.length<m->out.length+b.length<=C->zM N m b out=some (((zkR b).2:Int),out++(zkR b).1)
 |0,b,out,h,ho=>by omega
 |m+1,b,out,h,ho=>by
  have hok:=zd9 b (b.length+1) 0 (Nat.zero_le _)
  change (zb3 b 0).1.length+0<=b.length/\∀ k,(zb3 b 0).2=some k->(zb3 b 0).1.length+0<=k/\0+2<=k/\k<=b.length at hok
  obtain⟨hk1,hk2⟩:=hok
  unfold zM j7
  rw[zng N (by omega) (by omega) hN2,Option.bind_some,zhm]
  unfold kM
  have hb:Nat.blt (out.length+(zb3 b 0).1.length) jh=true:=ze2 (by omega)
  simp only[hb,cond_true]
  cases hc:(zb3 b 0).2 with
  |none=>simp only[zlq];rfl
  |some k=>
   obtain⟨q1,q2,q3⟩:=hk2 k hc
   have hk0:¬ ((k:Int)<0):=by omega
   simp only[zlq,hk0,decide_false,cond_false,zcy q3,Bool.and_true,cond_true,Int.toNat_natCast,zaA]
   rw[zf6 N C hC hN hN2 m (b.drop k) _ (by rw[List.length_drop];omega) (by rw[List.length_append,List.length_drop];omega),List.append_assoc]
theorem zkQ(N:Nat){b:List UInt8}(hb:b.length<=100000)(hN:b.length<N)(hN2:20<=N):jO N b=some ((zkR b).1,((zkR b).2:Int),()):=by
 unfold jO
 rw[zf6 N b.length hb hN hN2 N b [] hN (by simp),Option.bind_some,List.nil_append]
theorem zeg(N:Nat){b l:List UInt8}{at_ sk se:Int}(hb:b.length<=100000)(hl:l.length<=100000){k:Int}{n:Nat}(hn:n<=b.length):zn N (b,(at_,(sk,se))) k l (n:Int)=some ((b.drop n,(0,(0,0))),(k,l),true,()):=by
 unfold zn
 rw[zhD N l (by omega),Option.bind_some]
 simp only[zcy hn,Bool.and_true,cond_true,Int.toNat_natCast,zaA]
 rw[zhD N _ (by rw[List.length_drop];omega),Option.bind_some]
def zmE(b:List UInt8)(f:Nat):Option (Frm×List UInt8×Nat×Nat):=match za8 (b.drop f) with
 |none=>none
 |some e=>if 8192<(slice b f (f+e)).length then some ((3,(slice b f (f+e)).take 8192),b.drop (f+e+2),0,0) else match zh0 (slice b f (f+e)) with
  |none=>some ((1,b.take (f+e)),b.drop (f+e+2),0,0)
  |some n=>if 65536<n then some ((4,b.take (f+e)),b.drop (f+e+2),0,0) else some ((2,[]),b,f+e+2,n)
theorem zlP(N:Nat){b:List UInt8}{a s:Nat}{se:Int}(hb:b.length<=100000)(ha:a<=b.length)(hs:s<=100000)(hf:b.length<a+s):zj N (b,((a:Int),((s:Int),se)))=some ((b,((a:Int),((s:Int),se))),(0,[]),false,()):=by
 unfold zj zv
 simp only
 rw[wri (by omega) (by omega),decide_eq_true (by omega),cond_true,Option.bind_some]
 rfl
theorem zfM(N:Nat){b:List UInt8}{a s:Nat}{se:Int}(hb:b.length<=100000)(hN:b.length<N)(hN2:20<=N)(hf:a+s<=b.length):match zmE b (a+s) with
  |none=>∃ se',zj N (b,((a:Int),((s:Int),se)))=some ((b,(((a+s:Nat):Int),((0:Int),se'))),(0,[]),false,())
  |some (fr,b',a',s')=>∃ se',zj N (b,((a:Int),((s:Int),se)))=some ((b',((a':Int),((s':Int),se'))),fr,true,()):=by
 have hlit:zv N (b,((a:Int),((s:Int),se)))=some ((b,(((a+s:Nat):Int),((0:Int),((a+s:Nat):Int)))),true,()):=by
  unfold zv
  simp only
  rw[wri (x:=((b.length:Nat):Int)-(a:Int)) (by omega) (by omega),decide_eq_false (by omega),cond_false,wri (by omega) (by omega)]
  rfl
 generalize hfq:a+s=f at *
 have hlen:(b.drop f).length<=100000:=by rw[List.length_drop];omega
 have hline:zX N (b,((f:Int),((0:Int),(f:Int))))=match za8 (b.drop f) with
   |none=>some ((b,((f:Int),((0:Int),(if IntKind.wrap .i64 (((b.length:Nat):Int)-1) > (f:Int) then IntKind.wrap .i64 (((b.length:Nat):Int)-1) else(f:Int))))),(0:Int),false,())
   |some e=>some ((b,((f:Int),((0:Int),(f:Int)))),((f+e:Nat):Int),true,()):=by
  unfold zX
  have hl32:Nat.ble (b.drop f).length zcR=true:=by simp [zcR];omega
  simp only[zcy hf,Bool.and_true,cond_true,Int.toNat_natCast,zaA,hl32,zfk]
  cases he:za8 (b.drop f) with
  |none=>rfl
  |some e=>
   have:=zfa he
   simp only
   rw[decide_eq_false (by omega),cond_false,wri (by omega) (by omega)]
   rfl
 unfold zj
 rw[hlit,Option.bind_some]
 simp only[Bool.not_true,cond_false]
 rw[hline]
 unfold zmE
 cases he:za8 (b.drop f) with
 |none=>exact⟨_,rfl⟩
 |some e=>
  have hle:=zfa he
  have hsl:(slice b f (f+e)).length<=b.length:=qM
  simp only[Option.bind_some,Bool.not_true,cond_false]
  rw[kI (by omega) (by omega)]
  simp only[Bool.and_true,cond_true,Int.toNat_natCast]
  rw[zlo N (by omega) (by omega) (by omega)]
  have hw2:IntKind.wrap .i64 (((f+e:Nat):Int)+2)=((f+e+2:Nat):Int):=by rw[wri (by omega) (by omega)];omega
  have hb2:jD (0:Int) ((f+e:Nat):Int) b.length=true:=kI (a:=0) (by omega) (by omega)
  by_cases h8:8192<(slice b f (f+e)).length
  ·have hb3:jD (0:Int) (8192:Int) (slice b f (f+e)).length=true:=kI (a:=0) (b:=8192) (by omega) (by omega)
   simp only[zmu,Option.bind_some,if_pos h8]
   rw[decide_eq_true (by omega),cond_true,hb3,hw2]
   simp only[Bool.and_true,cond_true]
   rw[zeg N hb (by have:=@qM _ (slice b f (f+e)) 0 8192;omega) (by omega),Option.bind_some,jq]
   exact⟨_,rfl⟩
  ·simp only[zmu,Option.bind_some,if_neg h8]
   rw[decide_eq_false (by omega),cond_false]
   cases hn:zh0 (slice b f (f+e)) with
   |none=>
    simp only[Bool.not_false,cond_true,hb2,Bool.and_true]
    rw[hw2,zeg N hb (by have:=@qM _ b 0 (f+e);omega) (by omega),Option.bind_some,jq]
    exact⟨_,rfl⟩
   |some n=>
    simp only[Bool.not_true,cond_false]
    by_cases hn6:65536<n
    ·rw[decide_eq_true (by omega),cond_true,if_pos hn6]
     simp only[hb2,Bool.and_true,cond_true]
     rw[hw2,zeg N hb (by have:=@qM _ b 0 (f+e);omega) (by omega),Option.bind_some,jq]
     exact⟨_,rfl⟩
    ·rw[decide_eq_false (by omega),cond_false,if_neg hn6,hw2]
     exact⟨_,rfl⟩
theorem zjn{b:List UInt8}{f:Nat}(h:b.length<f):kM b f=([],b.length):=by
 unfold kM zb3
 rw[kk b h]
theorem zdx{b:List UInt8}{f:Nat}(hf:f<=b.length):kM b f=match zmE b f with
  |none=>([],b.length)
  |some (fr,b',a',s')=>(fr::(kM b' (a'+s')).1,(kM b' (a'+s')).2):=by
 have fin:∀ (fr:Frm) (k:Nat),zb3 b f=([fr],some k)->kM b f=(fr::(kM (b.drop k) (0+0)).1,(kM (b.drop k) (0+0)).2):=fun fr k h=>by
  unfold kM
  rw[h]
  simp only
  rw[zhm]
  rfl
 have hc:=zji b hf
 unfold zmE
 cases he:za8 (b.drop f) with
 |none=>
  rw[he] at hc
  unfold kM
  rw[hc]
 |some e=>
  rw[he] at hc
  simp only at hc |-
  by_cases h8:8192<(slice b f (f+e)).length
  ·rw[if_pos h8] at hc |-
   exact fin _ _ hc
  ·rw[if_neg h8] at hc |-
   cases hn:zh0 (slice b f (f+e)) with
   |none=>rw[hn] at hc;exact fin _ _ hc
   |some n=>
    rw[hn] at hc
    simp only at hc |-
    by_cases h6:65536<n
    ·rw[if_pos h6] at hc |-
     exact fin _ _ hc
    ·rw[if_neg h6] at hc |-
     simp only
     unfold kM
     rw[hc]
     simp only
     cases(zb3 b (f+e+2+n)).2<;>rfl
theorem zfd{b b':List UInt8}{f a' s':Nat}{fr:Frm}(h:zmE b f=some (fr,b',a',s')):b'.length<=b.length/\a'<=b'.length/\s'<=65536/\b'.length-(a'+s')+2<=b.length-f/\fr.2.length<=b.length/\∃ k,b'=b.drop k:=by
 unfold zmE at h
 cases he:za8 (b.drop f) with
 |none=>rw[he] at h;cases h
 |some e=>
  have hle:=zfa he
  have hsl:(slice b f (f+e)).length<=b.length:=qM
  rw[he] at h
  simp only at h
  split at h
  ·cases h
   refine⟨by rw[List.length_drop];omega,Nat.zero_le _,by omega,by rw[List.length_drop];omega,by simp only[List.length_take];omega,_,rfl⟩
  ·split at h
   ·cases h
    refine⟨by rw[List.length_drop];omega,Nat.zero_le _,by omega,by rw[List.length_drop];omega,by simp only[List.length_take];omega,_,rfl⟩
   ·split at h
    ·cases h
     refine⟨by rw[List.length_drop];omega,Nat.zero_le _,by omega,by rw[List.length_drop];omega,by simp only[List.length_take];omega,_,rfl⟩
    ·cases h
     refine⟨Nat.le_refl _,by omega,by omega,by omega,by simp,0,rfl⟩
theorem zf7(N C:Nat)(hC:C<=100000)(hN:100000<N):∀ (m:Nat) (b:List UInt8) (a s:Nat) (se:Int) (out:List Frm),b.length<=100000->a<=b.length->s<=65536->b.length-(a+s)<m->out.length+(b.length-(a+s))<=C ->
  ∃ b' a' s' se',zK N m b (a:Int) (s:Int) se out=some (b',a',s',se',out++(kM b (a+s)).1)/\b'.length=(kM b (a+s)).2
 |0,b,a,s,se,out,hb,ha,hs,h,ho=>by omega
 |m+1,b,a,s,se,out,hb,ha,hs,h,ho=>by
  unfold zK j3
  by_cases hf:a+s<=b.length
  ·have hp:=zfM N (se:=se) hb (by omega) (by omega) hf
   rw[zdx hf]
   cases hx:zmE b (a+s) with
   |none=>
    rw[hx] at hp
    obtain⟨se',hp⟩:=hp
    rw[hp]
    exact⟨_,_,_,_,by simp only[Option.bind_some,Bool.not_false,cond_true];rw[List.append_nil],rfl⟩
   |some w=>
    obtain⟨fr,b',a',s'⟩:=w
    rw[hx] at hp
    obtain⟨se',hp⟩:=hp
    obtain⟨h1,h2,h3,h4,h5,_⟩:=zfd hx
    have hlo:Nat.blt (out.length+1) jh=true:=ze2 (by omega)
    obtain⟨b2,a2,s2,se2,q1,q2⟩:=zf7 N C hC hN m b' a' s' se' (out++[fr]) (by omega) h2 h3 (by omega) (by simp;omega)
    refine⟨b2,a2,s2,se2,?_,q2⟩
    rw[hp]
    simp only[Option.bind_some,Bool.not_true,cond_false,hlo,cond_true]
    rw[q1,List.append_assoc]
    rfl
  ·rw[zlP N hb ha (by omega) (by omega),zjn (by omega)]
   exact⟨_,_,_,_,by simp only[Option.bind_some,Bool.not_false,cond_true];rw[List.append_nil],rfl⟩
theorem ziM(N:Nat){b:List UInt8}(hb:b.length<=100000)(hN:100000<N):jN N b=some ((zkR b).1,((zkR b).2:Int),()):=by
 unfold jN
 have hp:=zfM N (b:=b) (a:=0) (s:=0) (se:=0) hb (by omega) (by omega) (Nat.zero_le _)
 rw[show((0:Nat):Int)=0 from rfl] at hp
 have hlo:Nat.blt b.length jh=true:=ze2 (by omega)
 rw[hlo,cond_true,zhm,show kM b 0=kM b (0+0) from rfl,zdx (Nat.zero_le _)]
 cases hx:zmE b (0+0) with
 |none=>
  rw[hx] at hp
  obtain⟨se',hp⟩:=hp
  rw[hp]
  rfl
 |some w=>
  obtain⟨fr,b',a',s'⟩:=w
  rw[hx] at hp
  obtain⟨se',hp⟩:=hp
  obtain⟨h1,h2,h3,h4,h5,_⟩:=zfd hx
  obtain⟨b2,a2,s2,se2,q1,q2⟩:=zf7 N 100000 (by omega) hN N b' a' s' se' [fr] (by omega) h2 h3 (by omega) (by simp;omega)
  rw[hp]
  simp only[Option.bind_some,Bool.not_true,cond_false]
  rw[q1]
  simp only[Option.bind_some,zW,q2]
  rfl
theorem zgI{i n:Nat}(h:i<n):inb (i:Int) n=true:=by unfold inb;rw[decide_eq_true (by omega),decide_eq_true (by omega)];rfl
def zmC(ss:List (List UInt8)):Nat:=(ss.map fun b=>min b.length 5000).sum
theorem zfc{b:List UInt8}{ss:List (List UInt8)}:zmC (b::ss)=min b.length 5000+zmC ss:=by simp [zmC]
theorem zmD(N:Nat)(ss:List (List UInt8))(t:List UInt8)(hl:ss.length<=8):∀ (m i n:Nat),i<=ss.length->ss.length<m+i->n<=5000*i ->
  zJ N m ss t (n:Int) (i:Int)=some (ss,t,((n+zmC (ss.drop i):Nat):Int))
 |0,i,n,h1,h2,h3=>by omega
 |m+1,i,n,h1,h2,h3=>by
  unfold zJ jB
  by_cases h:i<ss.length
  ·rw[decide_eq_true (by omega),cond_true,zgI h,cond_true,Int.toNat_natCast]
   have e1:nth (.sl .u8) ss i=ss[i]:=by unfold nth;rw[List.getD_eq_getElem?_getD,List.getElem?_eq_getElem h];rfl
   rw[e1]
   have e2:(if(5000:Int)<((ss[i].length:Nat):Int) then(5000:Int) else((ss[i].length:Nat):Int))=((min ss[i].length 5000:Nat):Int):=by split<;>omega
   rw[e2,wri (by omega) (by omega),wri (by omega) (by omega)]
   have:=zmD N ss t hl m (i+1) (n+min ss[i].length 5000) h (by omega) (by omega)
   rw[List.drop_eq_getElem_cons h,zfc]
   rw[show((n:Nat):Int)+((min ss[i].length 5000:Nat):Int)=((n+min ss[i].length 5000:Nat):Int) by omega,show((i:Nat):Int)+1=((i+1:Nat):Int) by omega,this,Nat.add_assoc]
  ·rw[decide_eq_false (by omega),cond_false,List.drop_of_length_le (by omega)]
   simp [zmC]
theorem zjv(N:Nat)(ss:List (List UInt8))(t:List UInt8)(hl:ss.length<=maxLen):∀ (m i:Nat) (n:Int),i<=ss.length->ss.length<m+i->∃ v,zJ N m ss t n (i:Int)=some (ss,t,v)
 |0,i,n,h1,h2=>by omega
 |m+1,i,n,h1,h2=>by
  unfold zJ jB
  have hl':=hl
  simp only[maxLen] at hl'
  by_cases h:i<ss.length
  ·rw[decide_eq_true (by omega),cond_true,zgI h,cond_true,wri (x:=(i:Int)+1) (by omega) (by omega),show((i:Nat):Int)+1=((i+1:Nat):Int) by omega]
   exact zjv N ss t hl m (i+1) _ h (by omega)
  ·rw[decide_eq_false (by omega),cond_false]
   exact⟨n,rfl⟩
theorem zno{ss:List (List UInt8)}(h:zmC ss<=4000):∀ b ∈ ss,b.length<=4000:=by
 induction ss with
 |nil=>intro b hb;cases hb
 |cons a ss ih=>
  rw[zfc] at h
  intro b hb
  rcases List.mem_cons.1 hb with rfl|hb
  ·omega
  ·exact ih (by omega) b hb
theorem zcz(N:Nat)(hN:100000<N)(ss:List (List UInt8))(hs:∀ b ∈ ss,b.length<=4000)(hl:ss.length<=16)(k:Int)(hk1:1<=k)(hk2:k<=16):∀ (m i:Nat) (acc:Int),i<=ss.length->ss.length<m+i ->
  ∃ v,zO N m acc ss ((ss.length:Nat):Int) (i:Int) k ((ss.length:Nat):Int)=some (v,k,((ss.length:Nat):Int))/\zN N m k ss acc (i:Int)=some v
 |0,i,acc,h1,h2=>by omega
 |m+1,i,acc,h1,h2=>by
  unfold zO wg zN j9 qO
  by_cases h:i<ss.length
  ·have e1:nth (.sl .u8) ss i=ss[i]:=by unfold nth;rw[List.getD_eq_getElem?_getD,List.getElem?_eq_getElem h];rfl
   have hb:ss[i].length<=4000:=hs _ (List.getElem_mem h)
   rw[decide_eq_true (by omega),cond_true,zgI h,cond_true,Int.toNat_natCast,e1,ziM N (by omega) hN,Option.bind_some,Option.bind_some,cond_true,cond_true,zkQ N (by omega) (by omega) (by omega),Option.bind_some]
   have e2:IntKind.wrap .i64 ((3:Int)+(IntKind.wrap .i64 ((IntKind.wrap .i64 ((1:Int)+k))+((ss.length:Nat):Int))))=4+k+ss.length:=by rw[wri (x:=1+k) (by omega) (by omega),wri (x:=1+k+((ss.length:Nat):Int)) (by omega) (by omega),wri (x:=3+(1+k+((ss.length:Nat):Int))) (by omega) (by omega)];omega
   have e3:IntKind.wrap .i64 ((IntKind.wrap .i64 ((4:Int)+k))+((ss.length:Nat):Int))=4+k+ss.length:=by rw[wri (x:=4+k) (by omega) (by omega),wri (by omega) (by omega)]
   simp only[e2,e3]
   rw[wri (x:=(i:Int)+1) (by omega) (by omega),show((i:Nat):Int)+1=((i+1:Nat):Int) by omega]
   exact zcz N hN ss hs hl k hk1 hk2 m (i+1) _ h (by omega)
  ·rw[decide_eq_false (by omega),cond_false,cond_false]
   exact⟨acc,rfl,rfl⟩
theorem zh3(N:Nat)(hN:100000<N)(s c:Int)(n:Int)(hs:IntKind.i64.min<=s/\s<=IntKind.i64.max)(hc:IntKind.i64.min<=c/\c<=IntKind.i64.max)(ss:List (List UInt8))(h:ss=[]\/(ss.length<=8/\∀ b ∈ ss,b.length<=4000)):
  ∃ v,qC N (s,c,n) ss=some (v,())/\qB N s c ss=some (v,()):=by
 have hs1:-9223372036854775808<=s:=hs.1
 have hs2:s<=9223372036854775807:=hs.2
 have hc1:-9223372036854775808<=c:=hc.1
 have hc2:c<=9223372036854775807:=hc.2
 have hl:ss.length<=8:=h.elim (fun e=>by rw[e];exact Nat.zero_le _) fun h=>h.1
 unfold qC qB kg kf
 simp only[decide_eq_true hs1,decide_eq_true hs2,decide_eq_true hc1,decide_eq_true hc2,Bool.and_self,cond_true]
 by_cases k1:1<=s
 ·by_cases k2:s<=16
  ·by_cases k3:0<=c
   ·by_cases k4:c<=4096
    ·by_cases k5:1<=((ss.length:Nat):Int)
     ·have k6:((ss.length:Nat):Int)<=16:=by omega
      obtain⟨v,q1,q2⟩:=zcz N hN ss (h.elim (fun e b hb=>by rw[e] at hb;cases hb) fun h=>h.2) (by omega) s k1 k2 N 0 0 (Nat.zero_le _) (by omega)
      rw[show((0:Nat):Int)=0 from rfl] at q1 q2
      refine⟨v,?_,?_⟩
      ·simp only[decide_eq_true k1,decide_eq_true k2,decide_eq_true k3,decide_eq_true k4,decide_eq_true k5,decide_eq_true k6,Bool.and_self,cond_true,Bool.not_true,cond_false,q1,Option.bind_some]
      ·simp only[decide_eq_true k1,decide_eq_true k2,decide_eq_true k3,decide_eq_true k4,decide_eq_true k5,decide_eq_true k6,Bool.and_self,cond_true,Bool.not_true,cond_false,q2,Option.bind_some]
     ·refine⟨0,?_,?_⟩<;>simp only[decide_eq_true k1,decide_eq_true k2,decide_eq_true k3,decide_eq_true k4,decide_eq_false k5,Bool.and_self,Bool.and_false,Bool.false_and,cond_true,Bool.not_true,Bool.not_false,cond_false,Option.bind_some]
    ·refine⟨0,?_,?_⟩<;>simp only[decide_eq_true k1,decide_eq_true k2,decide_eq_true k3,decide_eq_false k4,Bool.and_self,Bool.and_false,Bool.false_and,cond_true,Bool.not_true,Bool.not_false,cond_false,Option.bind_some]
   ·refine⟨0,?_,?_⟩<;>simp only[decide_eq_true k1,decide_eq_true k2,decide_eq_false k3,Bool.and_self,Bool.and_false,Bool.false_and,cond_true,Bool.not_true,Bool.not_false,cond_false,Option.bind_some]
  ·refine⟨0,?_,?_⟩<;>simp only[decide_eq_true k1,decide_eq_false k2,Bool.and_self,Bool.and_false,Bool.false_and,cond_true,Bool.not_true,Bool.not_false,cond_false,Option.bind_some]
 ·refine⟨0,?_,?_⟩<;>simp only[decide_eq_false k1,Bool.and_self,Bool.and_false,Bool.false_and,cond_true,Bool.not_true,Bool.not_false,cond_false,Option.bind_some]
theorem zkB(x:El (kb [uB2,.sl (.sl .u8)]))(hw:Wf (kb [uB2,.sl (.sl .u8)]) x):∃ N,zR N x.1 x.2.1=some (true,()):=by
 obtain⟨⟨s,c,n⟩,ss,⟨⟩⟩:=x
 obtain⟨⟨hs,hc,hn⟩,⟨hl,_⟩,_⟩:=hw
 refine⟨200000+ss.length,?_⟩
 obtain⟨w,hf⟩:=zjv (200000+ss.length) ss [] hl (200000+ss.length) 0 0 (Nat.zero_le _) (by omega)
 have hw:ss.length<=8->w=((zmC ss:Nat):Int):=fun h8=>by
  have hf2:=zmD (200000+ss.length) ss [] h8 (200000+ss.length) 0 0 (Nat.zero_le _) (by omega) (Nat.zero_le _)
  rw[show((0:Nat):Int)=0 from rfl,Nat.zero_add,List.drop_zero] at hf2
  rw[show((0:Nat):Int)=0 from rfl,hf2] at hf
  cases hf;rfl
 rw[show((0:Nat):Int)=0 from rfl] at hf
 have key:(ss=[]\/(ss.length<=8/\∀ b ∈ ss,b.length<=4000))->∃ v,qC (200000+ss.length) (s,c,n) ss=some (v,())/\qB (200000+ss.length) s c ss=some (v,()):=zh3 _ (by omega) s c n hs hc ss
 unfold zR xU
 simp only[hf,Option.bind_some]
 by_cases k1:1<=((ss.length:Nat):Int)
 ·have k0:(0:Int)<((ss.length:Nat):Int):=by omega
  by_cases k2:((ss.length:Nat):Int)<=8
  ·have e:=hw (by omega)
   subst e
   by_cases k3:((zmC ss:Nat):Int)<=4000
   ·obtain⟨v,q1,q2⟩:=key (.inr ⟨by omega,zno (by omega)⟩)
    simp only[decide_eq_true k1,decide_eq_true k2,decide_eq_true k3,cond_true,List.length_nil,Int.ofNat_zero,Option.bind_some,q1,q2,beq_self_eq_true]
    rfl
   ·simp only[decide_eq_true k1,decide_eq_true k2,decide_eq_false k3,decide_eq_true k0,cond_true,cond_false,Bool.not_false,Option.bind_some]
  ·simp only[decide_eq_true k1,decide_eq_false k2,decide_eq_true k0,cond_true,cond_false,Bool.not_false,Option.bind_some]
 ·have k0:¬ (0:Int)<((ss.length:Nat):Int):=by omega
  obtain⟨v,q1,q2⟩:=key (.inl (List.eq_nil_of_length_eq_zero (by omega)))
  simp only[decide_eq_false k1,decide_eq_false k0,cond_true,cond_false,Bool.not_false,Option.bind_some,q1,q2,beq_self_eq_true]
end Go.Proofs.Model
