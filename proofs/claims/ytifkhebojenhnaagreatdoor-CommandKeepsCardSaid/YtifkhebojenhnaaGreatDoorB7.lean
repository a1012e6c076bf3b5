/- Machines and laws 7. -/
import Derived.Test.YtifkhebojenhnaaGreatDoorB6
set_option linter.unusedVariables false
set_option linter.unusedSimpArgs false
set_option maxRecDepth 100000
namespace Go.Proofs.Model
open Go Go.Gx Go.Mx Go.Sx
theorem zI(a k:Int):za 3000 [a] k=some (k==a,()):=by
 unfold za qD
 rw[show zG 3000 3000 [a] k (((List.length [a]):Nat):Int) 0=cond (k==a) (some (.inl 0)) (some (.inr ())) from by kernel_rfl]
 cases k==a<;>rfl
theorem zgw(a b c k:Int):za 3000 [a,b,c] k=some (k==a||k==b||k==c,()):=by
 unfold za qD
 rw[show zG 3000 3000 [a,b,c] k (((List.length [a,b,c]):Nat):Int) 0=cond (k==a) (some (.inl 0)) (cond (k==b) (some (.inl 1)) (cond (k==c) (some (.inl 2)) (some (.inr ())))) from by kernel_rfl]
 cases k==a<;>cases k==b<;>cases k==c<;>rfl
def zdT(c:UInt8):Bool:=cond (zf5 c) true (c==93)
theorem zvI(N:Nat)(c:UInt8):zL N c=some (zdT c,()):=by
 unfold zL
 rw[zv4]
 simp only[Option.bind_some]
 unfold zdT
 cases zf5 c<;>rfl
theorem zqK(N:Nat)(s:List UInt8)(hs:s.length<=100000):∀ (m i:Nat),i<=s.length->s.length<m+i ->
  qa N m s (s.length:Int) (i:Int)=some (if(s.drop i).all zdT=true then Sum.inr () else Sum.inl ())
 |0,i,h,h'=>by omega
 |m+1,i,h,h'=>by
  unfold qa kF
  by_cases hi:i<s.length
  ·simp only[zir hi,cond_true,z8 hi,Int.toNat_natCast,jR (u:=.u8) hi,zvI,Option.bind_some,drop_one hi,List.all_cons]
   cases hc:zdT s[i] with
   |true=>
    simp only[Bool.not_true,cond_false,Bool.true_and]
    rw[wri (by omega) (by omega),show((i:Int)+1)=((i+1:Nat):Int) by omega]
    exact zqK N s hs m (i+1) (by omega) (by omega)
   |false=>simp
  ·simp only[ziq hi,cond_false]
   rw[List.drop_eq_nil_of_le (by omega)]
   simp
theorem zqL(N:Nat)(s:List UInt8)(hs:s.length<=100000):∀ (m i:Nat),i<=s.length->s.length<m+i ->
  qb N m s (s.length:Int) (i:Int)=some (if(s.drop i).all zdT=true then Sum.inr () else Sum.inl ())
 |0,i,h,h'=>by omega
 |m+1,i,h,h'=>by
  unfold qb kI
  by_cases hi:i<s.length
  ·simp only[zir hi,cond_true,z8 hi,Int.toNat_natCast,jR (u:=.u8) hi,zvI,Option.bind_some,drop_one hi,List.all_cons]
   cases hc:zdT s[i] with
   |true=>
    simp only[Bool.not_true,cond_false,Bool.true_and]
    rw[wri (by omega) (by omega),show((i:Int)+1)=((i+1:Nat):Int) by omega]
    exact zqL N s hs m (i+1) (by omega) (by omega)
   |false=>simp
  ·simp only[ziq hi,cond_false]
   rw[List.drop_eq_nil_of_le (by omega)]
   simp
theorem ztH(N:Nat)(s:List UInt8)(hs:s.length<=100000)(k a:Int):∀ (m i:Nat),i<=s.length->s.length<m+i ->
  qc N m (i:Int) k s a=some (if(s.drop i).all zdT=true then Sum.inr (k,s,a) else Sum.inl (k,s,a))
 |0,i,h,h'=>by omega
 |m+1,i,h,h'=>by
  unfold qc kM
  by_cases hi:i<s.length
  ·have ih:=ztH N s hs k a m (i+1) (by omega) (by omega)
   simp only[zir hi,cond_true,z8 hi,Int.toNat_natCast,jR (u:=.u8) hi,zuP,Option.bind_some,drop_one hi,List.all_cons]
   rw[wri (by omega) (by omega),show((i:Int)+1)=((i+1:Nat):Int) by omega,ih]
   unfold zdT
   cases hc:zf5 s[i] with
   |true=>simp only[Bool.not_true,cond_false,cond_true,Bool.true_and]
   |false=>
    simp only[Bool.not_false,cond_true,cond_false]
    cases h93:s[i]==(93:UInt8) with
    |true=>simp only[bne,h93,Bool.not_true,cond_false,Bool.true_and]
    |false=>simp only[bne,h93,Bool.not_false,cond_true,Bool.false_and,Bool.false_eq_true,if_false]
  ·simp only[ziq hi,cond_false]
   rw[List.drop_eq_nil_of_le (by omega)]
   simp
def zgP(t:Tok):Bool:=if t.1=4 then t.2.1.all zdT else(t.1==5||t.1==6)
theorem zrD(t:Tok)(h:t.2.1.length<=2000):wR 3000 t=some (zgP t,()):=by
 obtain⟨k,s,a⟩:=t
 unfold wR zgP
 simp only at h |-
 by_cases h4:k=4
 ·subst h4
  have:=ztH 3000 s (by omega) 4 a 3000 0 (by omega) (by omega)
  rw[show((0:Nat):Int)=(0:Int) from rfl,List.drop_zero] at this
  simp only[show((4:Int) != 4)=false from rfl,cond_false,this,Option.bind_some,if_true]
  cases s.all zdT<;>rfl
 ·have:(k != (4:Int))=true:=by simpa using h4
  simp only[this,cond_true,if_neg h4]
  cases k==(5:Int)<;>rfl
theorem zoa{p:UInt8->Bool}{c:UInt8}(hc:p c=false):∀ {l:List UInt8},l.all p=true->posOf c l=none:=by
 intro l h
 cases hp:posOf c l with
 |none=>rfl
 |some i=>
  obtain⟨h1,h2,_⟩:=jb hp
  have h3:=List.all_eq_true.1 h c (List.mem_of_getElem? h2)
  rw[hc] at h3;cases h3
def qo(t:Tok):Prop:=(1<=t.1/\t.1<=6)/\t.2.1.length<=2000/\(t.1=4->t.2.1≠[]/\posOf 32 t.2.1=none)
theorem zr9{b:List UInt8}{i n:Nat}{t:Tok}(hb:b.length<=2000)(hi:i<b.length)(h:wq b i=some (t,n)):qo t:=by
 unfold wq at h
 rw[List.getElem?_eq_getElem hi] at h
 simp only at h
 unfold qo
 split at h
 ·cases h;simp
 ·split at h
  ·cases h;simp
  ·split at h
   ·cases h;simp
   ·split at h
    ·split at h
     ·rename_i r k hr
      have:=zlG _ hr
      rw[List.length_drop] at this
      cases h
      refine⟨⟨by simp,by simp⟩,by simp only;omega,by simp⟩
     ·cases h
    ·split at h
     ·split at h
      ·cases h
      ·split at h
       ·cases h
       ·split at h
        ·cases h
         refine⟨⟨by simp,by simp⟩,?_,by simp⟩
         simp only
         exact Nat.le_trans zcf hb
        ·cases h
     ·split at h
      ·rename_i hr
       have hle:=zhc jD (b.drop i)
       rw[List.length_drop] at hle
       cases h
       refine⟨⟨by simp,by simp⟩,Nat.le_trans zcf hb,fun _=>?_⟩
       have e:slice b i (i+run jD (b.drop i))=(b.drop i).take (run jD (b.drop i)):=by
        unfold slice;congr 1;omega
       refine⟨?_,?_⟩
       ·simp only[e]
        intro h0
        have:=congrArg List.length h0
        rw[List.length_take,List.length_drop] at this
        simp at this;omega
       ·simp only[e]
        exact zoa (p:=jD) (by kernel_rfl) (zij jD _)
      ·cases h
theorem zil{b:List UInt8}(hb:b.length<=2000):∀ (f i:Nat) (l:List Tok),i<=b.length->zad b f i=.inl l ->
  ∃ (p:List Tok) (e:Tok),l=p++[e]/\e.1=0/\(∀ t ∈ p,qo t)/\p.length+i<=b.length
 |0,i,l,hi,h=>by cases h
 |f+1,i,l,hi,h=>by
  unfold zad at h
  cases hn:wq b i with
  |none=>rw[hn] at h;cases h
  |some q=>
   obtain⟨t,n⟩:=q
   rw[hn] at h
   simp only at h
   by_cases hl:b.length<=i
   ·rw[if_pos hl] at h
    cases h
    exact⟨[],t,rfl,(ztg hn).2 hl,(fun _ h=>by cases h),by simpa using hi⟩
   ·rw[if_neg hl] at h
    have hnl:=zh3 (by omega) hn
    cases hr:zad b f n with
    |inr a=>rw[hr] at h;cases h
    |inl l'=>
     rw[hr] at h
     cases h
     obtain⟨p,e,h1,h2,h3,h4⟩:=zil hb f n l' hnl.2 hr
     refine⟨t::p,e,by rw[h1];rfl,h2,fun u hu=>?_,by simp only[List.length_cons];omega⟩
     rcases List.mem_cons.1 hu with rfl|hu
     ·exact zr9 hb (by omega) hn
     ·exact h3 u hu
def kc(t:Tok):UInt8:=nth .u8 [101,115,40,41,119,113,108] t.1.toNat
theorem zvL{t:Tok}(h:qo t):(kc t != 115)=!(t.1==1):=by
 obtain⟨k,s,a⟩:=t
 obtain⟨⟨h1,h2⟩,_⟩:=h
 simp only at h1 h2
 unfold kc
 simp only
 have:k=1\/k=2\/k=3\/k=4\/k=5\/k=6:=by omega
 rcases this with rfl|rfl|rfl|rfl|rfl|rfl<;>rfl
theorem zqT(l:List Tok)(hl:l.length<=2000)(hk:∀ t ∈ l,qo t):∀ (m i:Nat) (out:List UInt8),i<=l.length->out.length<=i->l.length<m+i ->
  qN 3000 m l out (i:Int)=some (out++(l.drop i).map kc)
 |0,i,out,h,ho,h'=>by omega
 |m+1,i,out,h,ho,h'=>by
  unfold qN zau
  by_cases hi:i<l.length
  ·have hok:=hk l[i] (List.getElem_mem hi)
   simp only[zir hi,cond_true,z8 hi,Int.toNat_natCast,jR (u:=uS1) hi,drop_one hi,List.map_cons]
   have⟨k,hk1,hk2,hk3⟩:∃ k:Nat,l[i].1=((k:Nat):Int)/\1<=k/\k<=6:=⟨l[i].1.toNat,by have:=hok.1;omega,by have:=hok.1;omega,by have:=hok.1;omega⟩
   have hs:slice ([101,115,40,41,119,113,108]:List UInt8) k (k+1)=[kc l[i]]:=by
    unfold kc
    rw[hk1]
    have:k=1\/k=2\/k=3\/k=4\/k=5\/k=6:=by omega
    rcases this with rfl|rfl|rfl|rfl|rfl|rfl<;>rfl
   have hb:=jf (a:=k) (b:=k+1) (n:=7) (by omega) (by omega)
   have hw:IntKind.wrap .i64 (((k:Nat):Int)+1)=((k+1:Nat):Int):=by rw[wri (by omega) (by omega)];rfl
   simp only[hk1,hw,hb,cond_true,Int.toNat_natCast,hs]
   have hd:decide (List.length out+List.length [kc l[i]]<4611686018427387904)=true:=by simp;omega
   rw[hd,cond_true,wri (by omega) (by omega),show((i:Int)+1)=((i+1:Nat):Int) by omega,zqT l hl hk m (i+1) (out++[kc l[i]]) (by omega) (by simp;omega) (by omega),List.append_assoc]
   rfl
  ·simp only[ziq hi,cond_false]
   rw[List.drop_eq_nil_of_le (by omega)]
   simp
theorem zl5(l:List Tok)(hl:l.length<=2000)(hk:∀ t ∈ l,qo t):xq 3000 l=some (l.map kc,()):=by
 unfold xq
 have:=zqT l hl hk 3000 0 [] (by omega) (by simp) (by omega)
 rw[show((0:Nat):Int)=(0:Int) from rfl,List.drop_zero,List.nil_append] at this
 rw[this];rfl
def zaH(s:List UInt8):Int:=match wD 3000 s with
 |some (n,_)=>n
 |none=>0
def xW(s:List UInt8):Int:=match wC 3000 s with
 |some (n,_)=>n
 |none=>0
theorem znw(s:List UInt8)(hs:s.length<=2000):j3 3000 s=some (zaH s,decide (0<zaH s),()):=by
 obtain⟨n,h1,h2,_⟩:=zfV s hs
 unfold zaH
 rw[h2,h1]
theorem zpv(s:List UInt8)(hs:s.length<=2000):wD 3000 s=some (zaH s,()):=by
 obtain⟨n,h1,h2,_⟩:=zfV s hs
 unfold zaH
 rw[h2]
theorem zb3(s:List UInt8)(hs:s.length<=2000):jv 3000 s=some (xW s,decide (0<xW s),()):=by
 obtain⟨n,h1,h2,_⟩:=zfU s hs
 unfold xW
 rw[h2,h1]
theorem zps(s:List UInt8)(hs:s.length<=2000):wC 3000 s=some (xW s,()):=by
 obtain⟨n,h1,h2,_⟩:=zfU s hs
 unfold xW
 rw[h2]
theorem zhM(s:List UInt8)(hs:s.length<=2000):0<=zaH s/\zaH s<=8:=by
 obtain⟨n,h1,h2,h3⟩:=zfV s hs
 unfold zaH
 rw[h2];exact h3
theorem zhK(s:List UInt8)(hs:s.length<=2000):0<=xW s/\xW s<=16:=by
 obtain⟨n,h1,h2,h3⟩:=zfU s hs
 unfold xW
 rw[h2];exact h3
def zlX(s:List UInt8):Int:=match flS s with
 |some n=>((n:Nat):Int)
 |none=>0
def vW(items:Bool)(s:List UInt8):Int:=cond items (xW s) (zlX s)
def zt{A:Type}(f:List UInt8->Option A)(op:A->A->A):A->List Tok->Option A
 |_,[]=>none
 |a,[t]=>if t.1=4 then(f t.2.1).map (op a) else none
 |a,t::s::r=>if t.1=4 then(match f t.2.1 with
  |none=>none
  |some x=>if s.1=1 then zt f op (op a x) r else none) else none
def fW(items:Bool)(s:List UInt8):Option Int:=if vW items s=0 then none else some (vW items s)
def orI(a b:Int):Int:=xw .or .i64 a b
def WR(o:Option (Int×Bool×Unit))(s:Option Int):Prop:=match s with
 |some x=>o=some (x,true,())
 |none=>∃ v,o=some (v,false,())
theorem znj(s:List UInt8)(hs:s.length<=2000):kK 3000 s=some (zlX s,()):=zpp s hs
theorem zon(items:Bool)(l:List Tok)(hl:l.length<=2000)(hk:∀ t ∈ l,qo t):∀ (m i:Nat) (acc:Int),i<=l.length->i % 2=0->l.length<m+i ->
  match zt (fW items) orI acc (l.drop i) with
  |some x=>zF 3000 m l items acc (i:Int)=some (.inr (l,x))/\l.length % 2=1
  |none=>zF 3000 m l items acc (i:Int)=some (.inl ())\/∃ v,zF 3000 m l items acc (i:Int)=some (.inr (l,v))/\l.length % 2=0
 |0,i,acc,h,hp,h'=>by omega
 |m+1,i,acc,h,hp,h'=>by
  unfold zF wh
  by_cases hi:i<l.length
  ·have hok:=hk l[i] (List.getElem_mem hi)
   have hm:(Int.tmod ((i:Nat):Int) 2==1)=false:=by
    rw[show Int.tmod ((i:Nat):Int) 2=((i % 2:Nat):Int) from rfl,hp];rfl
   have hw:IntKind.wrap .i64 (((i:Nat):Int)+1)=((i+1:Nat):Int):=by rw[wri (by omega) (by omega)];rfl
   simp only[zir hi,cond_true,z8 hi,Int.toNat_natCast,jR (u:=uS1) hi,hm,cond_false,hw,znj _ hok.2.1,zps _ hok.2.1,Option.bind_some]
   rw[drop_one hi]
   have hval:∀ (R:Type) (a:Option R) (g:Int->Option R),(cond items (cond (xW l[i].2.1==0) a (g (xW l[i].2.1))) (cond (zlX l[i].2.1==0) a (g (zlX l[i].2.1))))=cond (vW items l[i].2.1==0) a (g (vW items l[i].2.1)):=by
    intro R a g;cases items<;>rfl
   rw[hval _ _ fun v=>zF 3000 m l items (xw .or .i64 acc v) ((i+1:Nat):Int)]
   by_cases h4:l[i].1=4
   ·have e4:(l[i].1==(4:Int))=true:=by rw[beq_iff_eq];exact h4
    rw[e4,cond_true]
    by_cases h0:vW items l[i].2.1=0
    ·have e0:(vW items l[i].2.1==0)=true:=by rw[beq_iff_eq];exact h0
     rw[e0,cond_true]
     have:zt (fW items) orI acc (l[i]::l.drop (i+1))=none:=by
      cases l.drop (i+1) with
      |nil=>simp only[zt,if_pos h4,fW,if_pos h0,Option.map_none]
      |cons s r=>simp only[zt,if_pos h4,fW,if_pos h0]
     rw[this];exact .inl rfl
    ·have e0:(vW items l[i].2.1==0)=false:=by simpa using h0
     rw[e0,cond_false]
     cases m with
     |zero=>omega
     |succ m=>
      unfold zF wh
      by_cases hj:i+1<l.length
      ·have hm2:(Int.tmod ((i+1:Nat):Int) 2==1)=true:=by
        rw[show Int.tmod ((i+1:Nat):Int) 2=(((i+1) % 2:Nat):Int) from rfl,show(i+1) % 2=1 by omega];rfl
       have hw2:IntKind.wrap .i64 (((i+1:Nat):Int)+1)=((i+2:Nat):Int):=by rw[wri (by omega) (by omega)];rfl
       simp only[zir hj,cond_true,z8 hj,Int.toNat_natCast,jR (u:=uS1) hj,hm2,hw2]
       rw[drop_one hj]
       have hs:zt (fW items) orI acc (l[i]::l[i+1]::l.drop (i+1+1))=if l[i+1].1=1 then zt (fW items) orI (orI acc (vW items l[i].2.1)) (l.drop (i+2)) else none:=by
        simp only[zt,if_pos h4,fW,if_neg h0]
       rw[hs]
       by_cases h1:l[i+1].1=1
       ·have e1:(l[i+1].1 != (1:Int))=false:=by simpa using h1
        rw[if_pos h1,e1,cond_false]
        exact zon items l hl hk m (i+2) _ (by omega) (by omega) (by omega)
       ·have e1:(l[i+1].1 != (1:Int))=true:=by simpa using h1
        rw[if_neg h1,e1,cond_true]
        exact .inl rfl
      ·simp only[ziq hj,cond_false]
       rw[List.drop_eq_nil_of_le (by omega)]
       have hs:zt (fW items) orI acc [l[i]]=some (orI acc (vW items l[i].2.1)):=by
        simp only[zt,if_pos h4,fW,if_neg h0,Option.map_some]
       rw[hs]
       exact⟨rfl,by omega⟩
   ·have e4:(l[i].1==(4:Int))=false:=by simpa using h4
    rw[e4,cond_false]
    have:zt (fW items) orI acc (l[i]::l.drop (i+1))=none:=by
     cases l.drop (i+1) with
     |nil=>simp only[zt,if_neg h4]
     |cons s r=>simp only[zt,if_neg h4]
    rw[this];exact .inl rfl
  ·simp only[ziq hi,cond_false]
   rw[List.drop_eq_nil_of_le (by omega)]
   simp only[zt]
   exact .inr ⟨_,rfl,by omega⟩
theorem zd4(items:Bool)(l:List Tok)(hl:l.length<=2000)(hk:∀ t ∈ l,qo t):WR (jO 3000 l items) (zt (fW items) orI 0 l):=by
 unfold jO
 have:=zon items l hl hk 3000 0 0 (by omega) (by omega) (by omega)
 rw[List.drop_zero,show((0:Nat):Int)=(0:Int) from rfl] at this
 unfold WR
 cases hs:zt (fW items) orI 0 l with
 |some x=>
  rw[hs] at this
  obtain⟨h1,h2⟩:=this
  simp only[h1,Option.bind_some,zl]
  rw[show Int.tmod ((l.length:Nat):Int) 2=((l.length % 2:Nat):Int) from rfl,h2];rfl
 |none=>
  rw[hs] at this
  rcases this with h1|⟨v,h1,h2⟩
  ·simp only[h1,Option.bind_some,zl];exact⟨_,rfl⟩
  ·simp only[h1,Option.bind_some,zl]
   rw[show Int.tmod ((l.length:Nat):Int) 2=((l.length % 2:Nat):Int) from rfl,h2];exact⟨_,rfl⟩
def fP(s:List UInt8):Option UInt8:=(flS s).map UInt8.ofNat
def orP(a b:UInt8):UInt8:=a ||| b
theorem ztr{a b:Nat}(ha:a<32)(hb:b<32):∃ c:Nat,orI ((a:Nat):Int) ((b:Nat):Int)=((c:Nat):Int)/\c<32/\UInt8.ofNat a ||| UInt8.ofNat b=UInt8.ofNat c:=by
 have h:((List.range 32).all fun a=>(List.range 32).all fun b=>decide (0<=orI ((a:Nat):Int) ((b:Nat):Int))&&(decide ((orI ((a:Nat):Int) ((b:Nat):Int)).toNat<32)&&((UInt8.ofNat a ||| UInt8.ofNat b)==UInt8.ofNat (orI ((a:Nat):Int) ((b:Nat):Int)).toNat)))=true:=by kernel_rfl
 have h1:=List.all_eq_true.1 (List.all_eq_true.1 h a (List.mem_range.2 ha)) b (List.mem_range.2 hb)
 simp only[Bool.and_eq_true,decide_eq_true_eq,beq_iff_eq] at h1
 exact⟨_,(Int.toNat_of_nonneg h1.1).symm,h1.2.1,h1.2.2⟩
theorem zhD{s:List UInt8}(h:flS s=none):fW false s=none/\fP s=none:=by
 have e:vW false s=0:=by unfold vW zlX;rw[cond_false,h]
 refine⟨?_,?_⟩
 ·unfold fW;rw[if_pos e]
 ·unfold fP;rw[h];rfl
theorem zhE{s:List UInt8}{n:Nat}(h:flS s=some n):fW false s=some ((n:Nat):Int)/\fP s=some (UInt8.ofNat n):=by
 have e:vW false s=((n:Nat):Int):=by unfold vW zlX;rw[cond_false,h]
 have:=zni h
 refine⟨?_,?_⟩
 ·unfold fW;rw[if_neg (by rw[e];omega),e]
 ·unfold fP;rw[h];rfl
theorem zlO:∀ (l:List Tok) (a:Nat),a<32->∃ o:Option Nat,(∀ x,o=some x->x<32)/\zt (fW false) orI ((a:Nat):Int) l=o.map (fun x=>((x:Nat):Int))/\zt fP orP (UInt8.ofNat a) l=o.map UInt8.ofNat
 | [],a,ha=>⟨none,(fun x h=>by cases h),rfl,rfl⟩
 | [t],a,ha=>by
  by_cases h4:t.1=4
  ·simp only[zt,if_pos h4]
   cases hf:flS t.2.1 with
   |none=>
    rw[(zhD hf).1,(zhD hf).2]
    exact⟨none,(fun x h=>by cases h),rfl,rfl⟩
   |some n=>
    obtain⟨h1,h2⟩:=zni hf
    obtain⟨c,c1,c2,c3⟩:=ztr ha h2
    rw[(zhE hf).1,(zhE hf).2]
    refine⟨some c,(fun x h=>by cases h;exact c2),?_,?_⟩
    ·simp only[Option.map_some,c1]
    ·simp only[Option.map_some,orP,c3]
  ·simp only[zt,if_neg h4]
   exact⟨none,(fun x h=>by cases h),rfl,rfl⟩
 |t::s::r,a,ha=>by
  by_cases h4:t.1=4
  ·simp only[zt,if_pos h4]
   cases hf:flS t.2.1 with
   |none=>
    rw[(zhD hf).1,(zhD hf).2]
    exact⟨none,(fun x h=>by cases h),rfl,rfl⟩
   |some n=>
    obtain⟨h1,h2⟩:=zni hf
    obtain⟨c,c1,c2,c3⟩:=ztr ha h2
    rw[(zhE hf).1,(zhE hf).2]
    simp only[c1,orP,c3]
    by_cases hs:s.1=1
    ·simp only[if_pos hs]
     exact zlO r c c2
    ·simp only[if_neg hs]
     exact⟨none,(fun x h=>by cases h),rfl,rfl⟩
  ·simp only[zt,if_neg h4]
   exact⟨none,(fun x h=>by cases h),rfl,rfl⟩
theorem zj2{s:List UInt8}(h:xW s=0):fW true s=none:=by
 unfold fW;rw[if_pos (show vW true s=0 from h)]
theorem zj3{s:List UInt8}(h:¬ xW s=0):fW true s=some (xW s):=by
 unfold fW;rw[if_neg (show ¬ vW true s=0 from h)];rfl
theorem qH{α:Type}(t:α)(r:List α):inb (0:Int) (List.length (t::r))=true:=z8 (i:=0) (by simp)
theorem qI(t:Tok)(r:List Tok):nth uS1 (@List.cons Tok t r) 0=t:=rfl
theorem zr{α:Type}(t:α)(r:List α):ze (t::r) 1=r:=by rw[zci];rfl
theorem zn{α:Type}(t:α)(r:List α):z7 (1:Int) (t::r)=true:=zcT (a:=1) (by simp)
theorem zhR(y1:List UInt8)(y2:Int)(y3:List UInt8)(z:Tok)(q:List Tok)(hz:z.1=0\/z.1=3):∀ (p:List Tok) (a:UInt8) (m:Nat),(∀ t ∈ p,qo t/\t.1≠3)->p.length<m ->
  match zt fP orP a p with
  |some x=>(z.1=3->zA 3000 m (p++z::q) y1 y2 y3 a=some (.inr (z::q,y1,y2,y3,x)))/\(z.1≠3->∃ y,zA 3000 m (p++z::q) y1 y2 y3 a=some (.inl y))
  |none=>∃ y,zA 3000 m (p++z::q) y1 y2 y3 a=some (.inl y)
 |_,_,0,_,h=>by omega
 | [],a,m+1,hp,h=>by
  have e4:(z.1==(4:Int))=false:=by rcases hz with e|e<;>rw[e]<;>rfl
  simp only[zt,List.nil_append]
  unfold zA qO
  simp only[qH,cond_true,zI,qI,Option.bind_some,e4,Bool.not_false]
  exact⟨_,rfl⟩
 | [t],a,m+1,hp,h=>by
  obtain⟨hok,hk⟩:=hp t (List.mem_cons_self ..)
  have e1:(z.1==(1:Int))=false:=by rcases hz with e|e<;>rw[e]<;>rfl
  simp only[List.cons_append,List.nil_append]
  have hl1:decide (List.length ([40]:List UInt8)+List.length (nth uS1 (@List.cons Tok t (z::q)) 0).2.1<4611686018427387904)=true:=by
   show decide (List.length ([40]:List UInt8)+List.length t.2.1<4611686018427387904)=true
   have:=hok.2.1;simp;omega
  have hl2:decide (List.length (([40]:List UInt8)++(nth uS1 (@List.cons Tok t (z::q)) 0).2.1)+List.length ([41]:List UInt8)<4611686018427387904)=true:=by
   show decide (List.length (([40]:List UInt8)++t.2.1)+List.length ([41]:List UInt8)<4611686018427387904)=true
   have:=hok.2.1;simp;omega
  unfold zA qO
  simp only[qH,cond_true,zI,Option.bind_some,zr,zn,Bool.and_true,hl1,hl2]
  simp only[qI]
  by_cases h4:t.1=4
  ·have e4:(t.1==(4:Int))=true:=by rw[beq_iff_eq];exact h4
   obtain⟨h0,h32⟩:=hok.2.2 h4
   have hne:(t.2.1 != ([]:List UInt8))=true:=by simpa using h0
   simp only[e4,Bool.not_true,cond_false,za0 _ hok.2.1 h0 h32,zt,if_pos h4,fP]
   cases hf:flS t.2.1 with
   |none=>
    simp only[Option.bind_some,cond_false,Option.map_none]
    exact⟨_,rfl⟩
   |some n=>
    simp only[Option.bind_some,cond_true,Option.map_some,hne,Bool.not_true,cond_false,orP]
    by_cases hzk:z.1=3
    ·have e5:(z.1==(3:Int))=true:=by rw[beq_iff_eq];exact hzk
     simp only[e5,cond_true]
     exact⟨fun _=>(by first|rfl|trivial),fun h=>absurd hzk h⟩
    ·have e5:(z.1==(3:Int))=false:=by simpa using hzk
     simp only[e5,cond_false,e1,Bool.not_false,cond_true]
     exact⟨fun h=>absurd h hzk,fun _=>⟨_,rfl⟩⟩
  ·have e4:(t.1==(4:Int))=false:=by simpa using h4
   simp only[zt,if_neg h4,e4,Bool.not_false,cond_true]
   exact⟨_,rfl⟩
 |t::s::r,a,m+1,hp,h=>by
  obtain⟨hok,hk⟩:=hp t (List.mem_cons_self ..)
  obtain⟨hok2,hk2⟩:=hp s (List.mem_cons_of_mem _ (List.mem_cons_self ..))
  have ek:(s.1==(3:Int))=false:=by simpa using hk2
  simp only[List.cons_append]
  have hl1:decide (List.length ([40]:List UInt8)+List.length (nth uS1 (@List.cons Tok t (s::(r++z::q))) 0).2.1<4611686018427387904)=true:=by
   show decide (List.length ([40]:List UInt8)+List.length t.2.1<4611686018427387904)=true
   have:=hok.2.1;simp;omega
  have hl2:decide (List.length (([40]:List UInt8)++(nth uS1 (@List.cons Tok t (s::(r++z::q))) 0).2.1)+List.length ([41]:List UInt8)<4611686018427387904)=true:=by
   show decide (List.length (([40]:List UInt8)++t.2.1)+List.length ([41]:List UInt8)<4611686018427387904)=true
   have:=hok.2.1;simp;omega
  unfold zA qO
  simp only[qH,cond_true,zI,Option.bind_some,zr,zn,Bool.and_true,hl1,hl2]
  simp only[qI]
  by_cases h4:t.1=4
  ·have e4:(t.1==(4:Int))=true:=by rw[beq_iff_eq];exact h4
   obtain⟨h0,h32⟩:=hok.2.2 h4
   have hne:(t.2.1 != ([]:List UInt8))=true:=by simpa using h0
   simp only[e4,Bool.not_true,cond_false,za0 _ hok.2.1 h0 h32,zt,if_pos h4,fP]
   cases hf:flS t.2.1 with
   |none=>
    simp only[Option.bind_some,cond_false,Option.map_none]
    exact⟨_,rfl⟩
   |some n=>
    simp only[Option.bind_some,cond_true,Option.map_some,hne,Bool.not_true,cond_false,orP]
    simp only[ek,cond_false]
    by_cases hs:s.1=1
    ·have e5:(s.1==(1:Int))=true:=by rw[beq_iff_eq];exact hs
     simp only[e5,Bool.not_true,cond_false,if_pos hs]
     exact zhR y1 y2 y3 z q hz r _ m (fun u hu=>hp u (List.mem_cons_of_mem _ (List.mem_cons_of_mem _ hu))) (by simp only[List.length_cons] at h;omega)
    ·have e5:(s.1==(1:Int))=false:=by simpa using hs
     simp only[e5,Bool.not_false,cond_true,if_neg hs]
     exact⟨_,rfl⟩
  ·have e4:(t.1==(4:Int))=false:=by simpa using h4
   simp only[zt,if_neg h4,e4,Bool.not_false,cond_true]
   exact⟨_,rfl⟩
theorem zfX(y1:List UInt8)(y2:Int)(y3:List (Int×Int))(y4:Int)(y5:Bool)(z:Tok)(q:List Tok)(hz:z.1=0\/z.1=3):∀ (p:List Tok) (a:UInt8) (m:Nat),(∀ t ∈ p,qo t/\t.1≠3)->p.length<m ->
  match zt fP orP a p with
  |some x=>(z.1=3->zz 3000 m (p++z::q) y1 y2 y3 y4 y5 a=some (.inr (z::q,y1,y2,y3,y4,y5,x)))/\(z.1≠3->∃ y,zz 3000 m (p++z::q) y1 y2 y3 y4 y5 a=some (.inl y))
  |none=>∃ y,zz 3000 m (p++z::q) y1 y2 y3 y4 y5 a=some (.inl y)
 |_,_,0,_,h=>by omega
 | [],a,m+1,hp,h=>by
  have e4:(z.1==(4:Int))=false:=by rcases hz with e|e<;>rw[e]<;>rfl
  simp only[zt,List.nil_append]
  unfold zz qB
  simp only[qH,cond_true,zI,qI,Option.bind_some,e4,Bool.not_false]
  exact⟨_,rfl⟩
 | [t],a,m+1,hp,h=>by
  obtain⟨hok,hk⟩:=hp t (List.mem_cons_self ..)
  have e1:(z.1==(1:Int))=false:=by rcases hz with e|e<;>rw[e]<;>rfl
  simp only[List.cons_append,List.nil_append]
  have hl1:decide (List.length ([40]:List UInt8)+List.length (nth uS1 (@List.cons Tok t (z::q)) 0).2.1<4611686018427387904)=true:=by
   show decide (List.length ([40]:List UInt8)+List.length t.2.1<4611686018427387904)=true
   have:=hok.2.1;simp;omega
  have hl2:decide (List.length (([40]:List UInt8)++(nth uS1 (@List.cons Tok t (z::q)) 0).2.1)+List.length ([41]:List UInt8)<4611686018427387904)=true:=by
   show decide (List.length (([40]:List UInt8)++t.2.1)+List.length ([41]:List UInt8)<4611686018427387904)=true
   have:=hok.2.1;simp;omega
  unfold zz qB
  simp only[qH,cond_true,zI,Option.bind_some,zr,zn,Bool.and_true,hl1,hl2]
  simp only[qI]
  by_cases h4:t.1=4
  ·have e4:(t.1==(4:Int))=true:=by rw[beq_iff_eq];exact h4
   obtain⟨h0,h32⟩:=hok.2.2 h4
   have hne:(t.2.1 != ([]:List UInt8))=true:=by simpa using h0
   simp only[e4,Bool.not_true,cond_false,za0 _ hok.2.1 h0 h32,zt,if_pos h4,fP]
   cases hf:flS t.2.1 with
   |none=>
    simp only[Option.bind_some,cond_false,Option.map_none]
    exact⟨_,rfl⟩
   |some n=>
    simp only[Option.bind_some,cond_true,Option.map_some,hne,Bool.not_true,cond_false,orP]
    by_cases hzk:z.1=3
    ·have e5:(z.1==(3:Int))=true:=by rw[beq_iff_eq];exact hzk
     simp only[e5,cond_true]
     exact⟨fun _=>(by first|rfl|trivial),fun h=>absurd hzk h⟩
    ·have e5:(z.1==(3:Int))=false:=by simpa using hzk
     simp only[e5,cond_false,e1,Bool.not_false,cond_true]
     exact⟨fun h=>absurd h hzk,fun _=>⟨_,rfl⟩⟩
  ·have e4:(t.1==(4:Int))=false:=by simpa using h4
   simp only[zt,if_neg h4,e4,Bool.not_false,cond_true]
   exact⟨_,rfl⟩
 |t::s::r,a,m+1,hp,h=>by
  obtain⟨hok,hk⟩:=hp t (List.mem_cons_self ..)
  obtain⟨hok2,hk2⟩:=hp s (List.mem_cons_of_mem _ (List.mem_cons_self ..))
  have ek:(s.1==(3:Int))=false:=by simpa using hk2
  simp only[List.cons_append]
  have hl1:decide (List.length ([40]:List UInt8)+List.length (nth uS1 (@List.cons Tok t (s::(r++z::q))) 0).2.1<4611686018427387904)=true:=by
   show decide (List.length ([40]:List UInt8)+List.length t.2.1<4611686018427387904)=true
   have:=hok.2.1;simp;omega
  have hl2:decide (List.length (([40]:List UInt8)++(nth uS1 (@List.cons Tok t (s::(r++z::q))) 0).2.1)+List.length ([41]:List UInt8)<4611686018427387904)=true:=by
   show decide (List.length (([40]:List UInt8)++t.2.1)+List.length ([41]:List UInt8)<4611686018427387904)=true
   have:=hok.2.1;simp;omega
  unfold zz qB
  simp only[qH,cond_true,zI,Option.bind_some,zr,zn,Bool.and_true,hl1,hl2]
  simp only[qI]
  by_cases h4:t.1=4
  ·have e4:(t.1==(4:Int))=true:=by rw[beq_iff_eq];exact h4
   obtain⟨h0,h32⟩:=hok.2.2 h4
   have hne:(t.2.1 != ([]:List UInt8))=true:=by simpa using h0
   simp only[e4,Bool.not_true,cond_false,za0 _ hok.2.1 h0 h32,zt,if_pos h4,fP]
   cases hf:flS t.2.1 with
   |none=>
    simp only[Option.bind_some,cond_false,Option.map_none]
    exact⟨_,rfl⟩
   |some n=>
    simp only[Option.bind_some,cond_true,Option.map_some,hne,Bool.not_true,cond_false,orP]
    simp only[ek,cond_false]
    by_cases hs:s.1=1
    ·have e5:(s.1==(1:Int))=true:=by rw[beq_iff_eq];exact hs
     simp only[e5,Bool.not_true,cond_false,if_pos hs]
     exact zfX y1 y2 y3 y4 y5 z q hz r _ m (fun u hu=>hp u (List.mem_cons_of_mem _ (List.mem_cons_of_mem _ hu))) (by simp only[List.length_cons] at h;omega)
    ·have e5:(s.1==(1:Int))=false:=by simpa using hs
     simp only[e5,Bool.not_false,cond_true,if_neg hs]
     exact⟨_,rfl⟩
  ·have e4:(t.1==(4:Int))=false:=by simpa using h4
   simp only[zt,if_neg h4,e4,Bool.not_false,cond_true]
   exact⟨_,rfl⟩
theorem ziX(y1:List UInt8)(y2:Int)(y3:List (Int×Int))(y4:Int)(y5:Bool)(z:Tok)(q:List Tok)(hz:z.1=0\/z.1=3):∀ (p:List Tok) (a:UInt8) (m:Nat),(∀ t ∈ p,qo t/\t.1≠0)->p.length<m ->
  match zt fP orP a p with
  |some x=>(z.1=0->zB 3000 m (p++z::q) y1 y2 y3 y4 y5 a=some (.inr (z::q,y1,y2,y3,y4,y5,x)))/\(z.1≠0->∃ y,zB 3000 m (p++z::q) y1 y2 y3 y4 y5 a=some (.inl y))
  |none=>∃ y,zB 3000 m (p++z::q) y1 y2 y3 y4 y5 a=some (.inl y)
 |_,_,0,_,h=>by omega
 | [],a,m+1,hp,h=>by
  have e4:(z.1==(4:Int))=false:=by rcases hz with e|e<;>rw[e]<;>rfl
  simp only[zt,List.nil_append]
  unfold zB qC
  simp only[qH,cond_true,zI,qI,Option.bind_some,e4,Bool.not_false]
  exact⟨_,rfl⟩
 | [t],a,m+1,hp,h=>by
  obtain⟨hok,hk⟩:=hp t (List.mem_cons_self ..)
  have e1:(z.1==(1:Int))=false:=by rcases hz with e|e<;>rw[e]<;>rfl
  simp only[List.cons_append,List.nil_append]
  have hl1:decide (List.length ([40]:List UInt8)+List.length (nth uS1 (@List.cons Tok t (z::q)) 0).2.1<4611686018427387904)=true:=by
   show decide (List.length ([40]:List UInt8)+List.length t.2.1<4611686018427387904)=true
   have:=hok.2.1;simp;omega
  have hl2:decide (List.length (([40]:List UInt8)++(nth uS1 (@List.cons Tok t (z::q)) 0).2.1)+List.length ([41]:List UInt8)<4611686018427387904)=true:=by
   show decide (List.length (([40]:List UInt8)++t.2.1)+List.length ([41]:List UInt8)<4611686018427387904)=true
   have:=hok.2.1;simp;omega
  unfold zB qC
  simp only[qH,cond_true,zI,Option.bind_some,zr,zn,Bool.and_true,hl1,hl2]
  simp only[qI]
  by_cases h4:t.1=4
  ·have e4:(t.1==(4:Int))=true:=by rw[beq_iff_eq];exact h4
   obtain⟨h0,h32⟩:=hok.2.2 h4
   have hne:(t.2.1 != ([]:List UInt8))=true:=by simpa using h0
   simp only[e4,Bool.not_true,cond_false,za0 _ hok.2.1 h0 h32,zt,if_pos h4,fP]
   cases hf:flS t.2.1 with
   |none=>
    simp only[Option.bind_some,cond_false,Option.map_none]
    exact⟨_,rfl⟩
   |some n=>
    simp only[Option.bind_some,cond_true,Option.map_some,hne,Bool.not_true,cond_false,orP]
    by_cases hzk:z.1=0
    ·have e5:(z.1==(0:Int))=true:=by rw[beq_iff_eq];exact hzk
     simp only[e5,cond_true]
     exact⟨fun _=>(by first|rfl|trivial),fun h=>absurd hzk h⟩
    ·have e5:(z.1==(0:Int))=false:=by simpa using hzk
     simp only[e5,cond_false,e1,Bool.not_false,cond_true]
     exact⟨fun h=>absurd h hzk,fun _=>⟨_,rfl⟩⟩
  ·have e4:(t.1==(4:Int))=false:=by simpa using h4
   simp only[zt,if_neg h4,e4,Bool.not_false,cond_true]
   exact⟨_,rfl⟩
 |t::s::r,a,m+1,hp,h=>by
  obtain⟨hok,hk⟩:=hp t (List.mem_cons_self ..)
  obtain⟨hok2,hk2⟩:=hp s (List.mem_cons_of_mem _ (List.mem_cons_self ..))
  have ek:(s.1==(0:Int))=false:=by simpa using hk2
  simp only[List.cons_append]
  have hl1:decide (List.length ([40]:List UInt8)+List.length (nth uS1 (@List.cons Tok t (s::(r++z::q))) 0).2.1<4611686018427387904)=true:=by
   show decide (List.length ([40]:List UInt8)+List.length t.2.1<4611686018427387904)=true
   have:=hok.2.1;simp;omega
  have hl2:decide (List.length (([40]:List UInt8)++(nth uS1 (@List.cons Tok t (s::(r++z::q))) 0).2.1)+List.length ([41]:List UInt8)<4611686018427387904)=true:=by
   show decide (List.length (([40]:List UInt8)++t.2.1)+List.length ([41]:List UInt8)<4611686018427387904)=true
   have:=hok.2.1;simp;omega
  unfold zB qC
  simp only[qH,cond_true,zI,Option.bind_some,zr,zn,Bool.and_true,hl1,hl2]
  simp only[qI]
  by_cases h4:t.1=4
  ·have e4:(t.1==(4:Int))=true:=by rw[beq_iff_eq];exact h4
   obtain⟨h0,h32⟩:=hok.2.2 h4
   have hne:(t.2.1 != ([]:List UInt8))=true:=by simpa using h0
   simp only[e4,Bool.not_true,cond_false,za0 _ hok.2.1 h0 h32,zt,if_pos h4,fP]
   cases hf:flS t.2.1 with
   |none=>
    simp only[Option.bind_some,cond_false,Option.map_none]
    exact⟨_,rfl⟩
   |some n=>
    simp only[Option.bind_some,cond_true,Option.map_some,hne,Bool.not_true,cond_false,orP]
    simp only[ek,cond_false]
    by_cases hs:s.1=1
    ·have e5:(s.1==(1:Int))=true:=by rw[beq_iff_eq];exact hs
     simp only[e5,Bool.not_true,cond_false,if_pos hs]
     exact ziX y1 y2 y3 y4 y5 z q hz r _ m (fun u hu=>hp u (List.mem_cons_of_mem _ (List.mem_cons_of_mem _ hu))) (by simp only[List.length_cons] at h;omega)
    ·have e5:(s.1==(1:Int))=false:=by simpa using hs
     simp only[e5,Bool.not_false,cond_true,if_neg hs]
     exact⟨_,rfl⟩
  ·have e4:(t.1==(4:Int))=false:=by simpa using h4
   simp only[zt,if_neg h4,e4,Bool.not_false,cond_true]
   exact⟨_,rfl⟩
theorem zfW(y1:List UInt8)(y2:Int)(y3:List (Int×Int))(y5:UInt8)(z:Tok)(q:List Tok)(hz:z.1=0\/z.1=3):∀ (p:List Tok) (a:Int) (m:Nat),(∀ t ∈ p,qo t/\t.1≠3)->p.length<m ->
  match zt (fW true) orI a p with
  |some x=>(z.1=3->zy 3000 m (p++z::q) y1 y2 y3 a y5=some (.inr (z::q,y1,y2,y3,x,y5)))/\(z.1≠3->∃ y,zy 3000 m (p++z::q) y1 y2 y3 a y5=some (.inl y))
  |none=>∃ y,zy 3000 m (p++z::q) y1 y2 y3 a y5=some (.inl y)
 |_,_,0,_,h=>by omega
 | [],a,m+1,hp,h=>by
  have e4:(z.1==(4:Int))=false:=by rcases hz with e|e<;>rw[e]<;>rfl
  simp only[zt,List.nil_append]
  unfold zy qA
  simp only[qH,cond_true,zI,qI,Option.bind_some,e4,Bool.not_false]
  exact⟨_,rfl⟩
 | [t],a,m+1,hp,h=>by
  obtain⟨hok,hk⟩:=hp t (List.mem_cons_self ..)
  have e1:(z.1==(1:Int))=false:=by rcases hz with e|e<;>rw[e]<;>rfl
  simp only[List.cons_append,List.nil_append]
  unfold zy qA
  simp only[qH,cond_true,zI,qI,Option.bind_some,zr,zn,Bool.and_true]
  by_cases h4:t.1=4
  ·have e4:(t.1==(4:Int))=true:=by rw[beq_iff_eq];exact h4
   have hi:=zhK _ hok.2.1
   simp only[e4,Bool.not_true,cond_false,zb3 _ hok.2.1,Option.bind_some,zt,if_pos h4]
   by_cases h0:xW t.2.1=0
   ·have hd:decide (0<xW t.2.1)=false:=by simp;omega
    simp only[zj2 h0,Option.map_none,hd,Bool.not_false,cond_true]
    exact⟨_,rfl⟩
   ·have hd:decide (0<xW t.2.1)=true:=by simp;omega
    simp only[zj3 h0,Option.map_some,hd,Bool.not_true,cond_false,orI]
    by_cases hzk:z.1=3
    ·have e5:(z.1==(3:Int))=true:=by rw[beq_iff_eq];exact hzk
     simp only[e5,cond_true]
     exact⟨fun _=>(by first|rfl|trivial),fun h=>absurd hzk h⟩
    ·have e5:(z.1==(3:Int))=false:=by simpa using hzk
     simp only[e5,cond_false,e1,Bool.not_false,cond_true]
     exact⟨fun h=>absurd h hzk,fun _=>⟨_,rfl⟩⟩
  ·have e4:(t.1==(4:Int))=false:=by simpa using h4
   simp only[zt,if_neg h4,e4,Bool.not_false,cond_true]
   exact⟨_,rfl⟩
 |t::s::r,a,m+1,hp,h=>by
  obtain⟨hok,hk⟩:=hp t (List.mem_cons_self ..)
  obtain⟨hok2,hk2⟩:=hp s (List.mem_cons_of_mem _ (List.mem_cons_self ..))
  have ek:(s.1==(3:Int))=false:=by simpa using hk2
  simp only[List.cons_append]
  unfold zy qA
  simp only[qH,cond_true,zI,qI,Option.bind_some,zr,zn,Bool.and_true]
  by_cases h4:t.1=4
  ·have e4:(t.1==(4:Int))=true:=by rw[beq_iff_eq];exact h4
   have hi:=zhK _ hok.2.1
   simp only[e4,Bool.not_true,cond_false,zb3 _ hok.2.1,Option.bind_some,zt,if_pos h4]
   by_cases h0:xW t.2.1=0
   ·have hd:decide (0<xW t.2.1)=false:=by simp;omega
    simp only[zj2 h0,hd,Bool.not_false,cond_true]
    exact⟨_,rfl⟩
   ·have hd:decide (0<xW t.2.1)=true:=by simp;omega
    simp only[zj3 h0,hd,Bool.not_true,cond_false,orI]
    simp only[ek,cond_false]
    by_cases hs:s.1=1
    ·have e5:(s.1==(1:Int))=true:=by rw[beq_iff_eq];exact hs
     simp only[e5,Bool.not_true,cond_false,if_pos hs]
     exact zfW y1 y2 y3 y5 z q hz r _ m (fun u hu=>hp u (List.mem_cons_of_mem _ (List.mem_cons_of_mem _ hu))) (by simp only[List.length_cons] at h;omega)
    ·have e5:(s.1==(1:Int))=false:=by simpa using hs
     simp only[e5,Bool.not_false,cond_true,if_neg hs]
     exact⟨_,rfl⟩
  ·have e4:(t.1==(4:Int))=false:=by simpa using h4
   simp only[zt,if_neg h4,e4,Bool.not_false,cond_true]
   exact⟨_,rfl⟩
def zcU:List Tok->Option (List Tok×List Tok)
 | []=>none
 |t::r=>if t.1=3 then some ([],r) else(zcU r).map fun p=>(t::p.1,p.2)
theorem kN:∀ {l p q:List Tok},zcU l=some (p,q)->∃ z:Tok,z.1=3/\l=p++z::q/\∀ t ∈ p,t.1≠3
 | [],p,q,h=>by cases h
 |t::r,p,q,h=>by
  unfold zcU at h
  by_cases h3:t.1=3
  ·rw[if_pos h3] at h
   cases h
   exact⟨t,h3,rfl,(fun _ h=>by cases h)⟩
  ·rw[if_neg h3] at h
   cases hc:zcU r with
   |none=>rw[hc] at h;cases h
   |some pq=>
    rw[hc] at h
    cases h
    obtain⟨z,h1,h2,h4⟩:=kN (p:=pq.1) (q:=pq.2) hc
    refine⟨z,h1,by rw[h2];rfl,fun u hu=>?_⟩
    rcases List.mem_cons.1 hu with rfl|hu
    ·exact h3
    ·exact h4 u hu
theorem zhx{z:Tok}{q:List Tok}(hz:z.1=3):∀ {p:List Tok},(∀ t ∈ p,t.1≠3)->zcU (p++z::q)=some (p,q)
 | [],_=>by unfold zcU;simp only[List.nil_append,if_pos hz]
 |t::r,h=>by
  unfold zcU
  simp only[List.cons_append,if_neg (h t (List.mem_cons_self ..)),zhx hz (p:=r) (fun u hu=>h u (List.mem_cons_of_mem _ hu)),Option.map_some]
theorem zm5:∀ {l:List Tok},(∀ t ∈ l,t.1≠3)->zcU l=none
 | [],_=>rfl
 |t::r,h=>by
  unfold zcU
  rw[if_neg (h t (List.mem_cons_self ..)),zm5 (l:=r) (fun u hu=>h u (List.mem_cons_of_mem _ hu))];rfl
theorem zaY:∀ {l:List Tok},zcU l=none->∀ t ∈ l,t.1≠3
 | [],_,_,h=>by cases h
 |t::r,h,u,hu=>by
  unfold zcU at h
  by_cases h3:t.1=3
  ·rw[if_pos h3] at h;cases h
  ·rw[if_neg h3] at h
   cases hc:zcU r with
   |some pq=>rw[hc] at h;cases h
   |none=>
    rcases List.mem_cons.1 hu with rfl|hu
    ·exact h3
    ·exact zaY hc u hu
theorem zgr{A:Type}{f:List UInt8->Option A}{op:A->A->A}:∀ {l:List Tok} {a x:A},zt f op a l=some x->∀ t ∈ l,t.1≠3
 | [],a,x,h,t,ht=>by cases ht
 | [t],a,x,h,u,hu=>by
  rw[List.mem_singleton.1 hu]
  by_cases h4:t.1=4
  ·omega
  ·simp only[zt,if_neg h4] at h;cases h
 |t::s::r,a,x,h,u,hu=>by
  by_cases h4:t.1=4
  ·simp only[zt,if_pos h4] at h
   cases hf:f t.2.1 with
   |none=>rw[hf] at h;cases h
   |some y=>
    rw[hf] at h
    by_cases h1:s.1=1
    ·simp only[if_pos h1] at h
     rcases List.mem_cons.1 hu with rfl|hu
     ·omega
     ·rcases List.mem_cons.1 hu with rfl|hu
      ·omega
      ·exact zgr h u hu
    ·simp only[if_neg h1] at h;cases h
  ·simp only[zt,if_neg h4] at h;cases h
def brS(items:Bool):List Tok->Option (Int×List Tok)
 | []=>none
 |a::r=>if a.1=2 then(match zcU r with
  |none=>none
  |some ([],q)=>cond items none (some (0,q))
  |some (t::p,q)=>(zt (fW items) orI 0 (t::p)).map fun x=>(x,q)) else none
def zit:Option (Int×List Tok)->Option Int
 |some (x,[])=>some x
 |_=>none
theorem zlT{items:Bool}{l q:List Tok}{x:Int}(h:brS items l=some (x,q)):∃ pre,l=pre++q:=by
 cases l with
 |nil=>cases h
 |cons a r=>
  unfold brS at h
  simp only at h
  by_cases h2:a.1=2
  ·rw[if_pos h2] at h
   cases hc:zcU r with
   |none=>rw[hc] at h;cases h
   |some pq=>
    obtain⟨p,q'⟩:=pq
    obtain⟨z,z1,z2,z3⟩:=kN hc
    have hq:q'=q:=by
     rw[hc] at h
     cases p with
     |nil=>cases items<;>simp only[cond_true,cond_false] at h<;>cases h<;>rfl
     |cons t p=>
      simp only at h
      cases hw:zt (fW items) orI 0 (t::p) with
      |none=>rw[hw] at h;cases h
      |some y=>rw[hw] at h;cases h;rfl
    rw[<- hq,z2]
    exact⟨a::p++[z],by simp⟩
  ·rw[if_neg h2] at h;cases h
theorem zrE{items:Bool}{s d:Tok}(hs:s.1≠3)(hd:d.1≠3)(hs2:s.1≠2):∀ (l:List Tok),brS items (l++[s,d])=(brS items l).map fun p=>(p.1,p.2++[s,d])
 | []=>by simp only[List.nil_append,brS,if_neg hs2,Option.map_none]
 |a::r=>by
  simp only[List.cons_append,brS]
  by_cases h2:a.1=2
  ·simp only[if_pos h2]
   cases hc:zcU r with
   |none=>
    have:=zaY hc
    rw[zm5 (l:=r++[s,d]) (fun t ht=>by
     rcases List.mem_append.1 ht with h|h
     ·exact this t h
     ·simp only[List.mem_cons,List.not_mem_nil,or_false] at h
      rcases h with rfl|rfl
      ·exact hs
      ·exact hd)]
    rfl
   |some pq=>
    obtain⟨p,q⟩:=pq
    obtain⟨z,z1,z2,z3⟩:=kN hc
    rw[z2,show p++z::q++[s,d]=p++z::(q++[s,d]) from by simp,zhx z1 z3]
    cases p with
    |nil=>cases items<;>rfl
    |cons t p=>
     simp only[Option.map_map]
     cases zt (fW items) orI 0 (t::p)<;>rfl
  ·simp only[if_neg h2,Option.map_none]
theorem zqy{α:Type}(l:List α)(h:2<=l.length):∃ (a:α) (m:List α) (z:α),l=a::(m++[z]):=by
 cases l with
 |nil=>simp at h
 |cons a r=>
  cases r with
  |nil=>simp at h
  |cons b r=>exact⟨a,(b::r).dropLast,(b::r).getLast (by simp),by rw[List.dropLast_concat_getLast]⟩
theorem zpU(a:Tok)(m:List Tok)(z:Tok):nth uS1 (@List.cons Tok a (m++[z])) (m.length+1)=z:=by
 unfold nth
 simp
theorem zhT(items:Bool)(l:List Tok)(hl:l.length<=2000)(hk:∀ t ∈ l,qo t):WR (je 3000 l items) (zit (brS items l)):=by
 by_cases h2:l.length<2
 ·have e:decide ((((List.length l):Nat):Int)<2)=true:=by simp;omega
  unfold je
  simp only[e,cond_true]
  have:zit (brS items l)=none:=by
   match l,h2 with
   | [],_=>rfl
   | [a],_=>
    unfold brS
    by_cases ha:a.1=2
    ·simp only[if_pos ha,zcU];rfl
    ·simp only[if_neg ha];rfl
  rw[this];exact⟨_,rfl⟩
 ·obtain⟨a,m,z,rfl⟩:=zqy l (by omega)
  have hlen:(a::(m++[z])).length=m.length+2:=by simp
  have hm2:m.length+2<=2000:=by rw[<- hlen];exact hl
  have e1:decide ((((List.length (a::(m++[z]))):Nat):Int)<2)=false:=by rw[hlen];simp;omega
  have e2:IntKind.wrap .i64 ((((List.length (a::(m++[z]))):Nat):Int)-1)=((m.length+1:Nat):Int):=by rw[hlen,wri (by omega) (by omega)];omega
  have e3:inb ((m.length+1:Nat):Int) (List.length (a::(m++[z])))=true:=z8 (by rw[hlen];omega)
  have e4:=jf (a:=1) (b:=m.length+1) (n:=(a::(m++[z])).length) (by omega) (by rw[hlen];omega)
  rw[show((1:Nat):Int)=(1:Int) from rfl] at e4
  have e5:slice (a::(m++[z])) 1 (m.length+1)=m:=by unfold slice;simp
  have e6:((((List.length (a::(m++[z]))):Nat):Int)==(2:Int))=decide (m=[]):=by
   rw[hlen]
   cases m with
   |nil=>rfl
   |cons b m=>
    have:((((b::m).length+2:Nat):Int)==(2:Int))=false:=by simp;omega
    rw[this];simp
  unfold je
  simp only[e1,cond_false,qH,cond_true,qI,e2,e3,Int.toNat_natCast,zpU,e4,e5,e6,Bool.and_true]
  simp only[brS]
  by_cases ha:a.1=2
  ·have b1:(a.1 != (2:Int))=false:=by simpa using ha
   simp only[b1,cond_false,if_pos ha]
   by_cases hz:z.1=3
   ·have b2:(z.1 != (3:Int))=false:=by simpa using hz
    simp only[b2,cond_false]
    by_cases hm:∀ t ∈ m,t.1≠3
    ·rw[show m++[z]=m++z::[] from rfl,zhx hz hm]
     cases m with
     |nil=>cases items<;>first|exact⟨_,rfl⟩|rfl
     |cons b m=>
      have hw:=zd4 items (b::m) (by omega) (fun t ht=>hk t (List.mem_cons_of_mem _ (List.mem_append_left _ ht)))
      simp only[show decide ((b::m)=[])=false from rfl,cond_false]
      cases hs:zt (fW items) orI 0 (b::m) with
      |some x=>
       rw[hs] at hw
       simp only[WR] at hw
       rw[hw];rfl
      |none=>
       rw[hs] at hw
       obtain⟨v,hv⟩:=hw
       rw[hv];exact⟨_,rfl⟩
    ·have hcn:∃ p q,zcU (m++[z])=some (p,q)/\q≠[]:=by
      cases hc:zcU m with
      |none=>exact absurd (zaY hc) hm
      |some pq=>
       obtain⟨p,q⟩:=pq
       obtain⟨y,y1,y2,y3⟩:=kN hc
       refine⟨p,q++[z],?_,by simp⟩
       rw[y2,show p++y::q++[z]=p++y::(q++[z]) from by simp,zhx y1 y3]
     obtain⟨p,q,c1,c2⟩:=hcn
     have hn:zt (fW items) orI 0 m=none:=by
      cases hs:zt (fW items) orI 0 m with
      |none=>rfl
      |some x=>exact absurd (zgr hs) hm
     have hmne:decide (m=[])=false:=by
      cases m with
      |nil=>exact absurd (fun t ht=>by cases ht) hm
      |cons b m=>simp
     have hw:=zd4 items m (by omega) (fun t ht=>hk t (List.mem_cons_of_mem _ (List.mem_append_left _ ht)))
     rw[hn] at hw
     obtain⟨v,hv⟩:=hw
     have ho:∀ o:Option Int,zit (o.map fun x=>(x,q))=none:=by
      intro o
      cases o with
      |none=>rfl
      |some x=>cases q with
       |nil=>exact absurd rfl c2
       |cons c q=>rfl
     rw[c1,hmne,cond_false,hv]
     cases p with
     |nil=>
      cases items with
      |true=>exact⟨_,rfl⟩
      |false=>
       simp only[cond_false]
       rw[show(some ((0:Int),q))=(some (0:Int)).map (fun x=>(x,q)) from rfl,ho]
       exact⟨_,rfl⟩
     |cons t p=>
      simp only
      rw[ho]
      exact⟨_,rfl⟩
   ·have b2:(z.1 != (3:Int))=true:=by simpa using hz
    simp only[b2,cond_true]
    have:zit (match zcU (m++[z]) with
      |none=>none
      |some ([],q)=>cond items none (some (0,q))
      |some (t::p,q)=>(zt (fW items) orI 0 (t::p)).map fun x=>(x,q))=none:=by
     cases hc:zcU (m++[z]) with
     |none=>rfl
     |some pq=>
      obtain⟨p,q⟩:=pq
      obtain⟨y,y1,y2,y3⟩:=kN hc
      cases q with
      |nil=>
       have:=(List.append_inj' (show m++[z]=p++[y] from y2) rfl).2
       cases this
       exact absurd y1 hz
      |cons c q=>
       cases p with
       |nil=>cases items<;>rfl
       |cons t p=>
        simp only
        cases zt (fW items) orI 0 (t::p)<;>rfl
    rw[this]
    exact⟨_,rfl⟩
  ·have b1:(a.1 != (2:Int))=true:=by simpa using ha
   simp only[b1,cond_true,if_neg ha]
   exact⟨_,rfl⟩
def cA(tag:List UInt8)(k:Int)(m:List UInt8)(f:UInt8)(d:List UInt8):El uS2:=(tag,(k,(m,([],(0,(0,(false,(f,d))))))))
def zgu:List Tok->Option (UInt8×List UInt8)
 | []=>none
 | [d]=>if d.1=6 then some (0,d.2.1) else none
 |a::b::r=>match brS false (a::b::r) with
  |some (x,[s,d])=>if s.1=1/\d.1=6 then some (zaL x,d.2.1) else none
  |_=>none
theorem zpx{α:Type}(l:List α)(h:2<=l.length):∃ (m:List α) (s d:α),l=m++[s,d]:=by
 refine⟨l.take (l.length-2),l[l.length-2],l[l.length-1],?_⟩
 have h1:l.drop (l.length-2)=[l[l.length-2],l[l.length-1]]:=by
  rw[List.drop_eq_getElem_cons (by omega)]
  congr 1
  rw[List.drop_eq_getElem_cons (by omega)]
  congr 1
  ·congr 1;omega
  ·rw[List.drop_eq_nil_of_le (by omega)]
 rw[<- h1,List.take_append_drop]
theorem zk4{l:List Tok}{s d:Tok}:zgu (l++[s,d])=match brS false (l++[s,d]) with
  |some (x,[s,d])=>if s.1=1/\d.1=6 then some (zaL x,d.2.1) else none
  |_=>none:=by
 match l with
 | []=>rfl
 | [a]=>rfl
 |a::b::l=>rfl
theorem zhr{l:List Tok}{s d:Tok}(h:¬ (s.1=1/\d.1=6)):zgu (l++[s,d])=none:=by
 rw[zk4]
 split
 ·rename_i x s' d' hb
  obtain⟨pre,hp⟩:=zlT hb
  have:=(List.append_inj' hp rfl).2
  cases this
  rw[if_neg h]
 ·rfl
theorem zix{l:List Tok}{s d:Tok}(hs:s.1=1)(hd:d.1=6):zgu (l++[s,d])=(zit (brS false l)).map fun x=>(zaL x,d.2.1):=by
 rw[zk4,zrE (by omega) (by omega) (by omega)]
 cases hb:brS false l with
 |none=>rfl
 |some pq=>
  obtain⟨x,q⟩:=pq
  cases q with
  |nil=>
   simp only[Option.map_some,List.nil_append,zit]
   rw[if_pos ⟨hs,hd⟩]
  |cons c q=>
   simp only[Option.map_some,List.cons_append,zit]
   cases q with
   |nil=>rfl
   |cons c2 q=>cases q<;>rfl
theorem zrA(tag:List UInt8)(k:Int)(m:List UInt8)(l:List Tok)(hl:l.length<=2000)(hk:∀ t ∈ l,qo t):match zgu l with
  |some (f,d)=>qM 3000 (cA tag k m 0 []) l=some (cA tag k m f d,true,())
  |none=>∃ c,qM 3000 (cA tag k m 0 []) l=some (c,false,()):=by
 by_cases h2:2<=l.length
 ·obtain⟨l',s,d,rfl⟩:=zpx l h2
  have hlen:(l'++[s,d]).length=l'.length+2:=by simp
  have hl2:l'.length+2<=2000:=by rw[<- hlen];exact hl
  have hks:=hk s (by simp)
  have hkd:=hk d (by simp)
  have e0:((((List.length (l'++[s,d])):Nat):Int)==(0:Int))=false:=by rw[hlen];simp;omega
  have e1:((((List.length (l'++[s,d])):Nat):Int)==(1:Int))=false:=by rw[hlen];simp;omega
  have e2:IntKind.wrap .i64 ((((List.length (l'++[s,d])):Nat):Int)-1)=((l'.length+1:Nat):Int):=by rw[hlen,wri (by omega) (by omega)];omega
  have e3:IntKind.wrap .i64 ((((List.length (l'++[s,d])):Nat):Int)-2)=((l'.length:Nat):Int):=by rw[hlen,wri (by omega) (by omega)];omega
  have e4:inb ((l'.length+1:Nat):Int) (List.length (l'++[s,d]))=true:=z8 (by rw[hlen];omega)
  have e5:inb ((l'.length:Nat):Int) (List.length (l'++[s,d]))=true:=z8 (by rw[hlen];omega)
  have e6:nth uS1 (l'++[s,d]) (l'.length+1)=d:=by unfold nth;simp
  have e7:nth uS1 (l'++[s,d]) l'.length=s:=by unfold nth;simp
  have e8:=jf (a:=0) (b:=l'.length) (n:=(l'++[s,d]).length) (by omega) (by rw[hlen];omega)
  rw[show((0:Nat):Int)=(0:Int) from rfl] at e8
  have e9:slice (l'++[s,d]) 0 l'.length=l':=by rw[wG];simp
  have eb:=zbZ (n:=d.2.1.length) (by have:=hkd.2.1;omega)
  have hw:=zhT false l' (by omega) (fun t ht=>hk t (List.mem_append_left _ ht))
  unfold qM
  simp only[e0,cond_false,e2,e4,cond_true,Int.toNat_natCast,e6,eb,e1,e3,e8,Bool.and_true,e9]
  by_cases hd:d.1=6
  ·have d6:(d.1 != (6:Int))=false:=by simpa using hd
   simp only[d6,cond_false]
   cases ho:zit (brS false l') with
   |none=>
    rw[ho] at hw
    obtain⟨v,hv⟩:=hw
    have:zgu (l'++[s,d])=none:=by
     by_cases hs:s.1=1
     ·rw[zix hs hd,ho];rfl
     ·exact zhr (fun h=>hs h.1)
    rw[this,hv]
    exact⟨_,rfl⟩
   |some x=>
    rw[ho] at hw
    simp only[WR] at hw
    rw[hw]
    simp only[Option.bind_some,cond_true,e5,e7]
    by_cases hs:s.1=1
    ·have s1:(s.1==(1:Int))=true:=by rw[beq_iff_eq];exact hs
     rw[zix hs hd,ho,s1]
     rfl
    ·have s1:(s.1==(1:Int))=false:=by simpa using hs
     rw[zhr (fun h=>hs h.1),s1]
     exact⟨_,rfl⟩
  ·have d6:(d.1 != (6:Int))=true:=by simpa using hd
   rw[zhr (fun h=>hd h.2)]
   simp only[d6,cond_true]
   exact⟨_,rfl⟩
 ·match l,h2 with
  | [],_=>exact⟨_,rfl⟩
  | [d],_=>
   have hkd:=hk d (by simp)
   have eb:=zbZ (n:=d.2.1.length) (by have:=hkd.2.1;omega)
   have e0:((((List.length [d]):Nat):Int)==(0:Int))=false:=rfl
   have e1:((((List.length [d]):Nat):Int)==(1:Int))=true:=rfl
   have e2:IntKind.wrap .i64 ((((List.length [d]):Nat):Int)-1)=0:=rfl
   unfold qM zgu
   simp only[e0,cond_false,e2,qH,cond_true,show Int.toNat 0=0 from rfl,qI,eb,e1]
   by_cases hd:d.1=6
   ·have d6:(d.1 != (6:Int))=false:=by simpa using hd
    simp only[d6,cond_false,if_pos hd]
    rfl
   ·have d6:(d.1 != (6:Int))=true:=by simpa using hd
    simp only[d6,cond_true,if_neg hd]
    exact⟨_,rfl⟩
  |a::b::l,h=>exact absurd (by simp) h
def wF:List UInt8:=[70,76,65,71,83]
def wP:List UInt8:=[43,70,76,65,71,83]
def wM:List UInt8:=[45,70,76,65,71,83]
def wS:List UInt8:=[46,83,73,76,69,78,84]
def mW(w:List UInt8)(b:Bool):Option (Int×Bool):=cond (w==wF) (some (0,b)) (cond (w==wP) (some (1,b)) (cond (w==wM) (some (2,b)) none))
def zkt(u:List UInt8):Option (Int×Bool):=if 7<=u.length/\u.drop (u.length-7)=wS then mW (u.take (u.length-7)) true else mW u false
def zhZ(s:List UInt8):Option (Int×Bool):=zkt (s.map up)
def zmc(o:Option (Int×Bool)):Option (Int×Bool×Unit):=some (match o with
 |some (m,b)=>(m,b,())
 |none=>(-1,false,()))
theorem zr7(w:List UInt8)(b:Bool):(cond (w==([70,76,65,71,83]:List UInt8)) (some ((0:Int),b,())) (cond (w==([43,70,76,65,71,83]:List UInt8)) (some ((1:Int),b,())) (cond (w==([45,70,76,65,71,83]:List UInt8)) (some ((2:Int),b,())) (some ((-1:Int),false,())))))=zmc (mW w b):=by
 unfold mW wF wP wM
 cases w==([70,76,65,71,83]:List UInt8)<;>cases w==([43,70,76,65,71,83]:List UInt8)<;>cases w==([45,70,76,65,71,83]:List UInt8)<;>rfl
theorem zpN(s:List UInt8)(hs:s.length<=2000):zav 3000 s=zmc (zhZ s):=by
 unfold zav zhZ
 rw[zbx s hs]
 have hl:(s.map up).length<=2000:=by rw[List.length_map];exact hs
 generalize s.map up=u at hl |-
 simp only[Option.bind_some]
 simp only[zr7]
 unfold zkt
 by_cases h7:7<u.length
 ·have e1:decide ((7:Int)<(((List.length u):Nat):Int))=true:=by simp;omega
  have e2:IntKind.wrap .i64 ((((List.length u):Nat):Int)-7)=((u.length-7:Nat):Int):=by rw[wri (by omega) (by omega)];omega
  have e3:=jf (a:=u.length-7) (b:=u.length) (n:=u.length) (by omega) (by omega)
  have e4:=jf (a:=0) (b:=u.length-7) (n:=u.length) (by omega) (by omega)
  rw[show((0:Nat):Int)=(0:Int) from rfl] at e4
  simp only[e1,cond_true,e2,e3,e4,Int.toNat_natCast,xE,wG]
  by_cases hw:u.drop (u.length-7)=wS
  ·have e5:(u.drop (u.length-7)==([46,83,73,76,69,78,84]:List UInt8))=true:=by rw[beq_iff_eq];exact hw
   rw[e5,cond_true,if_pos ⟨by omega,hw⟩]
  ·have e5:(u.drop (u.length-7)==([46,83,73,76,69,78,84]:List UInt8))=false:=by
    cases e:u.drop (u.length-7)==([46,83,73,76,69,78,84]:List UInt8) with
    |false=>rfl
    |true=>rw[beq_iff_eq] at e;exact absurd e hw
   rw[e5,cond_false,if_neg (fun h=>hw h.2)]
 ·have e1:decide ((7:Int)<(((List.length u):Nat):Int))=false:=by simp;omega
  simp only[e1,cond_false]
  by_cases h:7<=u.length/\u.drop (u.length-7)=wS
  ·rw[if_pos h]
   have e:u.length-7=0:=by omega
   have hu:u=wS:=by have:=h.2;rw[e] at this;exact this
   rw[hu];rfl
  ·rw[if_neg h]
theorem zrU(u:List UInt8):zk 3000 3000 [([70,76,65,71,83]:List UInt8),([43,70,76,65,71,83]:List UInt8),([45,70,76,65,71,83]:List UInt8)] u 3 0=(cond (u==([70,76,65,71,83]:List UInt8)) (some (.inl 0)) (cond (u==([43,70,76,65,71,83]:List UInt8)) (some (.inl 1)) (cond (u==([45,70,76,65,71,83]:List UInt8)) (some (.inl 2)) (some (.inr ()))))):=by kernel_rfl
theorem zrT(w:List UInt8)(b:Bool):∃ i:Int,zp 3000 [([70,76,65,71,83]:List UInt8),([43,70,76,65,71,83]:List UInt8),([45,70,76,65,71,83]:List UInt8)] w=some (i,())/\(match mW w b with
  |some (m,b')=>i=m/\b'=b/\0<=i
  |none=>i=-1):=by
 unfold zp
 rw[show zk 3000 3000 [([70,76,65,71,83]:List UInt8),([43,70,76,65,71,83]:List UInt8),([45,70,76,65,71,83]:List UInt8)] w (((List.length ([([70,76,65,71,83]:List UInt8),([43,70,76,65,71,83]:List UInt8),([45,70,76,65,71,83]:List UInt8)]:List (List UInt8))):Nat):Int) 0=_ from zrU w]
 unfold mW wF wP wM
 cases w==([70,76,65,71,83]:List UInt8) with
 |true=>exact⟨0,rfl,rfl,rfl,by omega⟩
 |false=>
  cases w==([43,70,76,65,71,83]:List UInt8) with
  |true=>exact⟨1,rfl,rfl,rfl,by omega⟩
  |false=>
   cases w==([45,70,76,65,71,83]:List UInt8) with
   |true=>exact⟨2,rfl,rfl,rfl,by omega⟩
   |false=>exact⟨-1,rfl,rfl⟩
theorem zjc(u:List UInt8)(hl:u.length<=2000):∃ (w:List UInt8) (b:Bool) (i:Int),zV 3000 u ([46,83,73,76,69,78,84]:List UInt8)=some (w,b,())/\zp 3000 [([70,76,65,71,83]:List UInt8),([43,70,76,65,71,83]:List UInt8),([45,70,76,65,71,83]:List UInt8)] w=some (i,())/\(match zkt u with
  |some (m,b')=>i=m/\b'=b/\0<=i
  |none=>i=-1):=by
 unfold zV qk ql zkt
 by_cases h7:7<=u.length
 ·have e1:decide ((((List.length ([46,83,73,76,69,78,84]:List UInt8)):Nat):Int)<=(((List.length u):Nat):Int))=true:=by simp;omega
  have e2:IntKind.wrap .i64 ((((List.length u):Nat):Int)-(((List.length ([46,83,73,76,69,78,84]:List UInt8)):Nat):Int))=((u.length-7:Nat):Int):=by
   rw[show(((List.length ([46,83,73,76,69,78,84]:List UInt8)):Nat):Int)=7 from rfl,wri (by omega) (by omega)];omega
  have e3:=jf (a:=u.length-7) (b:=u.length) (n:=u.length) (by omega) (by omega)
  have e4:=jf (a:=0) (b:=u.length-7) (n:=u.length) (by omega) (by omega)
  rw[show((0:Nat):Int)=(0:Int) from rfl] at e4
  simp only[e1,cond_true,e2,e3,e4,Int.toNat_natCast,xE,wG,Option.bind_some]
  by_cases hw:u.drop (u.length-7)=wS
  ·have e5:(u.drop (u.length-7)==([46,83,73,76,69,78,84]:List UInt8))=true:=by rw[beq_iff_eq];exact hw
   rw[e5,if_pos ⟨h7,hw⟩]
   simp only[Bool.not_true,cond_false,Option.bind_some]
   obtain⟨i,h1,h2⟩:=zrT (u.take (u.length-7)) true
   exact⟨_,_,i,rfl,h1,h2⟩
  ·have e5:(u.drop (u.length-7)==([46,83,73,76,69,78,84]:List UInt8))=false:=by
    cases e:u.drop (u.length-7)==([46,83,73,76,69,78,84]:List UInt8) with
    |false=>rfl
    |true=>rw[beq_iff_eq] at e;exact absurd e hw
   rw[e5,if_neg (fun h=>hw h.2)]
   simp only[Bool.not_false,cond_true,Option.bind_some]
   obtain⟨i,h1,h2⟩:=zrT u false
   exact⟨_,_,i,rfl,h1,h2⟩
 ·have e1:decide ((((List.length ([46,83,73,76,69,78,84]:List UInt8)):Nat):Int)<=(((List.length u):Nat):Int))=false:=by simp;omega
  rw[if_neg (fun h=>h7 h.1)]
  simp only[e1,cond_false,Option.bind_some,Bool.not_false,cond_true]
  obtain⟨i,h1,h2⟩:=zrT u false
  exact⟨_,_,i,rfl,h1,h2⟩

def zhF(tag:List UInt8):El uS2:=(tag,(0,([],([],(0,(0,(false,(0,[]))))))))
def zly(tag:List UInt8)(o:Option (El uS2)):Option ((El uS2)×Bool×Unit):=some (match o with
 |some c=>(c,true,())
 |none=>(zhF tag,false,()))
def cI(tag:List UInt8)(k:Int)(st:List (Int×Int))(x:Int):El uS2:=(tag,(k,([],(st,(x,(0,(false,(0,[]))))))))
def cS(tag:List UInt8)(k:Int)(st:List (Int×Int))(m:Int)(b:Bool)(f:UInt8):El uS2:=(tag,(k,([],(st,(0,(m,(b,(f,[]))))))))
def tk{A:Type}(k:Int)(l:List Tok)(f:Tok->List Tok->Option A):Option A:=match l with
 | []=>none
 |t::r=>if t.1=k then f t r else none
def tkM{A:Type}(l:List Tok)(f:Tok->List Tok->Option A):Option A:=match l with
 | []=>none
 |t::r=>if zgP t=true then f t r else none
def tkE{A:Type}(l:List Tok)(x:A):Option A:=match l with
 | []=>some x
 |_::_=>none
theorem eqT{a b:Int}(h:a=b):(a==b)=true:=by rw[beq_iff_eq];exact h
theorem eqF{a b:Int}(h:¬ a=b):(a==b)=false:=by simpa using h
theorem neT{a b:Int}(h:¬ a=b):(a != b)=true:=by simpa using h
theorem neF{a b:Int}(h:a=b):(a != b)=false:=by simpa using h
theorem zrp(tag:List UInt8)(kd:Int)(e:Tok)(he:e.1=0)(r:List Tok)(hk:∀ t ∈ r,qo t):B1 3000 tag kd (r++[e])=zly tag (tkE r (cA tag kd [] 0 [])):=by
 cases r with
 |nil=>
  simp only[List.nil_append]
  unfold B1
  simp only[qH,cond_true,cond_false,zI,qI,Option.bind_some,zn,Bool.and_true,Bool.not_true,eqT he]
  rfl
 |cons t r=>
  have h0:¬ t.1=0:=by have:=(hk t (List.mem_cons_self ..)).1;omega
  simp only[List.cons_append]
  unfold B1
  simp only[qH,cond_true,zI,qI,Option.bind_some,zn,Bool.and_true,Bool.not_false,eqF h0]
  rfl
theorem zrz(tag:List UInt8)(kd:Int)(mb:List UInt8)(e:Tok)(he:e.1=0)(r:List Tok)(hk:∀ t ∈ r,qo t):E5 3000 tag kd mb (r++[e])=zly tag (tkE r (cA tag kd mb 0 [])):=by
 cases r with
 |nil=>
  simp only[List.nil_append]
  unfold E5
  simp only[qH,cond_true,cond_false,zI,qI,Option.bind_some,zn,Bool.and_true,Bool.not_true,eqT he]
  rfl
 |cons t r=>
  have h0:¬ t.1=0:=by have:=(hk t (List.mem_cons_self ..)).1;omega
  simp only[List.cons_append]
  unfold E5
  simp only[qH,cond_true,zI,qI,Option.bind_some,zn,Bool.and_true,Bool.not_false,eqF h0]
  rfl
def znd(tag:List UInt8)(kd:Int)(mb:List UInt8)(f:UInt8)(q:List Tok):Option (El uS2):=match q with
 | [s,d]=>if s.1=1/\d.1=6 then some (cA tag kd mb f d.2.1) else none
 |_=>none
theorem zmH(tag:List UInt8)(kd:Int)(mb:List UInt8)(f:UInt8)(e:Tok)(he:e.1=0)(z:Tok)(hz:z.1=3)(q:List Tok)(hk:∀ t ∈ q,qo t):G6 3000 tag tag kd mb f (z::(q++[e]))=zly tag (znd tag kd mb f q):=by
 have f1:¬ e.1=1:=by omega
 have f6:¬ e.1=6:=by omega
 unfold G6
 simp only[qH,cond_true,cond_false,zI,qI,Option.bind_some,zr,zn,Bool.and_true,Bool.not_true,eqT hz]
 match q,hk with
 | [],_=>simp only[qH,cond_true,qI,zr,zn,Bool.not_false,List.nil_append,eqF f1];rfl
 | [s],_=>
  by_cases h1:s.1=1
  ·simp only[qH,cond_true,cond_false,qI,zr,zn,Bool.not_true,Bool.not_false,List.cons_append,List.nil_append,eqT h1,eqF f6];rfl
  ·simp only[qH,cond_true,qI,zr,zn,Bool.not_false,List.cons_append,List.nil_append,eqF h1];rfl
 | [s,d],hk=>
  have eb:=zbZ (n:=d.2.1.length) (by have:=(hk d (by simp)).2.1;omega)
  by_cases h1:s.1=1
  ·by_cases h6:d.1=6
   ·simp only[qH,cond_true,cond_false,qI,zr,zn,Bool.not_true,List.cons_append,List.nil_append,eqT h1,eqT h6,eqT he,eb,znd,if_pos (And.intro h1 h6)];rfl
   ·simp only[qH,cond_true,cond_false,qI,zr,zn,Bool.not_true,Bool.not_false,List.cons_append,List.nil_append,eqT h1,eqF h6,znd,if_neg (fun h:s.1=1/\d.1=6=>h6 h.2)];rfl
  ·simp only[qH,cond_true,qI,zr,zn,Bool.not_false,List.cons_append,List.nil_append,eqF h1,znd,if_neg (fun h:s.1=1/\d.1=6=>h1 h.1)];rfl
 |s::d::t::q,hk=>
  have eb:=zbZ (n:=d.2.1.length) (by have:=(hk d (by simp)).2.1;omega)
  have h0:¬ t.1=0:=by have:=(hk t (by simp)).1;omega
  by_cases h1:s.1=1
  ·by_cases h6:d.1=6
   ·simp only[qH,cond_true,cond_false,qI,zr,zn,Bool.not_true,Bool.not_false,List.cons_append,eqT h1,eqT h6,eqF h0,eb,znd];rfl
   ·simp only[qH,cond_true,cond_false,qI,zr,zn,Bool.not_true,Bool.not_false,List.cons_append,eqT h1,eqF h6,znd];rfl
  ·simp only[qH,cond_true,qI,zr,zn,Bool.not_false,List.cons_append,eqF h1,znd];rfl
theorem zlc(tag:List UInt8)(kd:Int)(mb:List UInt8)(x:Int)(q:List Tok):((match some (x,q) with
  |some (x,[s,d])=>if s.1=1/\d.1=6 then some (zaL x,d.2.1) else none
  |_=>none:Option (UInt8×List UInt8)).map fun p=>cA tag kd mb p.1 p.2)=znd tag kd mb (zaL x) q:=by
 match q with
 | []=>rfl
 | [s]=>rfl
 | [s,d]=>
  unfold znd
  by_cases h:s.1=1/\d.1=6
  ·simp only[if_pos h,Option.map_some]
  ·simp only[if_neg h,Option.map_none]
 |s::d::t::q=>rfl
theorem zpj(tag:List UInt8)(kd:Int)(mb:List UInt8)(a:Tok)(h2:a.1=2)(r:List Tok):((zgu (a::r)).map fun p=>cA tag kd mb p.1 p.2)=match zcU r with
  |none=>none
  |some ([],q)=>znd tag kd mb 0 q
  |some (t::p,q)=>(zt (fW false) orI 0 (t::p)).bind fun x=>znd tag kd mb (zaL x) q:=by
 cases r with
 |nil=>
  have h6:¬ a.1=6:=by omega
  simp only[zgu,if_neg h6,zcU,Option.map_none]
 |cons b r=>
  unfold zgu brS
  simp only[if_pos h2]
  cases hc:zcU (b::r) with
  |none=>rfl
  |some pq=>
   obtain⟨p,q⟩:=pq
   cases p with
   |nil=>simp only[cond_false];exact zlc tag kd mb 0 q
   |cons t p=>
    simp only
    cases zt (fW false) orI 0 (t::p) with
    |none=>rfl
    |some x=>simp only[Option.map_some,Option.bind_some];exact zlc tag kd mb x q
theorem zlh(r:List Tok)(e:Tok):∃ t r',r++[e]=t::r'/\(t=e\/t ∈ r):=by
 cases r with
 |nil=>exact⟨e,[],rfl,.inl rfl⟩
 |cons t r=>exact⟨t,r++[e],rfl,.inr (List.mem_cons_self ..)⟩
theorem zrv(tag:List UInt8)(kd:Int)(mb:List UInt8)(e:Tok)(he:e.1=0)(r:List Tok)(hl:r.length<=2000)(hk:∀ t ∈ r,qo t):D6 3000 tag kd mb (r++[e])=zly tag ((zgu r).map fun p=>cA tag kd mb p.1 p.2):=by
 have f2:¬ e.1=2:=by omega
 have f6:¬ e.1=6:=by omega
 have f3:¬ e.1=3:=by omega
 cases r with
 |nil=>
  simp only[List.nil_append]
  unfold D6
  simp only[qH,cond_true,cond_false,zI,qI,Option.bind_some,zr,zn,Bool.and_true,Bool.not_false,eqF f2,eqF f6]
  rfl
 |cons a r=>
  have hkr:∀ t ∈ r,qo t:=fun t ht=>hk t (List.mem_cons_of_mem _ ht)
  by_cases h2:a.1=2
  ·rw[zpj tag kd mb a h2 r]
   cases hc:zcU r with
   |none=>
    have hn:=zaY hc
    have hl46:=zhR tag kd mb e [] (.inl he) r 0 3000 (fun t ht=>⟨hkr t ht,hn t ht⟩) (by simp only[List.length_cons] at hl;omega)
    have:∃ y,zA 3000 3000 (r++[e]) tag kd mb 0=some (.inl y):=by
     cases hw:zt fP orP 0 r with
     |none=>rw[hw] at hl46;exact hl46
     |some x=>rw[hw] at hl46;exact hl46.2 f3
    obtain⟨y,hy⟩:=this
    obtain⟨t,r',hr,ht⟩:=zlh r e
    have ht3:¬ t.1=3:=by
     rcases ht with rfl|ht
     ·exact f3
     ·exact hn t ht
    simp only[List.cons_append]
    rw[hr] at hy |-
    unfold D6
    simp only[qH,cond_true,cond_false,zI,qI,Option.bind_some,zr,zn,Bool.and_true,Bool.not_true,eqT h2,neT ht3,hy,zl]
    rfl
   |some pq=>
    obtain⟨p,q⟩:=pq
    obtain⟨z,z1,z2,z3⟩:=kN hc
    subst z2
    have hkq:∀ t ∈ q,qo t:=fun t ht=>hkr t (List.mem_append_right _ (List.mem_cons_of_mem _ ht))
    rw[show(a::(p++z::q))++[e]=a::(p++z::(q++[e])) from by simp]
    cases p with
    |nil=>
     unfold D6
     simp only[qH,cond_true,cond_false,zI,qI,Option.bind_some,zr,zn,Bool.and_true,Bool.not_true,List.nil_append,eqT h2,neF z1,zmH tag kd mb _ e he z z1 q hkq]
    |cons t p=>
     have hl46:=zhR tag kd mb z (q++[e]) (.inr z1) (t::p) 0 3000 (fun u hu=>⟨hkr u (List.mem_append_left _ hu),z3 u hu⟩) (by simp only[List.length_cons,List.length_append] at hl |-;omega)
     obtain⟨o,o1,o2,o3⟩:=zlO (t::p) 0 (by omega)
     rw[show UInt8.ofNat 0=(0:UInt8) from rfl] at o3
     rw[show((0:Nat):Int)=(0:Int) from rfl] at o2
     have ht3:=z3 t (List.mem_cons_self ..)
     unfold D6
     cases o with
     |none=>
      rw[o3] at hl46
      simp only[Option.map_none,List.cons_append] at hl46
      obtain⟨y,hy⟩:=hl46
      simp only[qH,cond_true,cond_false,zI,qI,Option.bind_some,zr,zn,Bool.and_true,Bool.not_true,List.cons_append,eqT h2,neT ht3,hy,zl,o2,Option.map_none,Option.bind_none]
      rfl
     |some n=>
      rw[o3] at hl46
      simp only[Option.map_some,List.cons_append] at hl46
      have hy:=hl46.1 z1
      have hn:=o1 n rfl
      simp only[qH,cond_true,cond_false,zI,qI,Option.bind_some,zr,zn,Bool.and_true,Bool.not_true,List.cons_append,eqT h2,neT ht3,hy,zl,o2,Option.map_some,zmH tag kd mb _ e he z z1 q hkq,wc (show n<256 by omega)]
  ·simp only[List.cons_append]
   unfold D6
   by_cases h6:a.1=6
   ·have eb:=zbZ (n:=a.2.1.length) (by have:=(hk a (by simp)).2.1;omega)
    cases r with
    |nil=>
     simp only[qH,cond_true,cond_false,zI,qI,Option.bind_some,zr,zn,Bool.and_true,Bool.not_true,Bool.not_false,List.nil_append,eqF h2,eqT h6,eb,eqT he,zgu,if_pos h6]
     rfl
    |cons b r=>
     have h0:¬ b.1=0:=by have:=(hkr b (by simp)).1;omega
     simp only[qH,cond_true,cond_false,zI,qI,Option.bind_some,zr,zn,Bool.and_true,Bool.not_true,Bool.not_false,List.cons_append,eqF h2,eqT h6,eb,eqF h0,zgu,brS,if_neg h2]
     rfl
   ·have hs:zgu (a::r)=none:=by
     cases r with
     |nil=>simp only[zgu,if_neg h6]
     |cons b r=>simp only[zgu,brS,if_neg h2]
    simp only[qH,cond_true,cond_false,zI,qI,Option.bind_some,zr,zn,Bool.and_true,Bool.not_false,eqF h2,eqF h6,hs]
    rfl
theorem zru(tag:List UInt8)(kd:Int)(mb:List UInt8)(e:Tok)(he:e.1=0)(r:List Tok)(hl:r.length<=2000)(hk:∀ t ∈ r,qo t):C6 3000 tag kd mb (r++[e])=zly tag (tk 1 r fun _ r=>(zgu r).map fun p=>cA tag kd mb p.1 p.2):=by
 have f1:¬ e.1=1:=by omega
 cases r with
 |nil=>
  simp only[List.nil_append]
  unfold C6
  simp only[qH,cond_true,zI,qI,Option.bind_some,zr,zn,Bool.and_true,Bool.not_false,eqF f1]
  rfl
 |cons s r=>
  simp only[List.cons_append]
  unfold C6
  by_cases h1:s.1=1
  ·simp only[qH,cond_true,cond_false,zI,qI,Option.bind_some,zr,zn,Bool.and_true,Bool.not_true,eqT h1,tk,if_pos h1]
   exact zrv tag kd mb e he r (by simp only[List.length_cons] at hl;omega) (fun t ht=>hk t (List.mem_cons_of_mem _ ht))
  ·simp only[qH,cond_true,zI,qI,Option.bind_some,zr,zn,Bool.and_true,Bool.not_false,eqF h1,tk,if_neg h1]
   rfl
theorem zrq(tag:List UInt8)(kd:Int)(e:Tok)(he:e.1=0)(r:List Tok)(hl:r.length<=2000)(hk:∀ t ∈ r,qo t):B5 3000 tag kd (r++[e])=zly tag (tk 1 r fun _ r=>tkM r fun m r=>tkE r (cA tag kd m.2.1 0 [])):=by
 have f1:¬ e.1=1:=by omega
 have f4:¬ e.1=4:=by omega
 have f5:¬ e.1=5:=by omega
 have f6:¬ e.1=6:=by omega
 cases r with
 |nil=>
  simp only[List.nil_append]
  unfold B5
  simp only[qH,cond_true,zI,zgw,qI,Option.bind_some,zr,zn,Bool.and_true,Bool.not_false,eqF f1]
  rfl
 |cons s r=>
  simp only[List.cons_append]
  unfold B5
  by_cases h1:s.1=1
  ·cases r with
   |nil=>
    simp only[qH,cond_true,cond_false,zI,zgw,qI,Option.bind_some,zr,zn,Bool.and_true,Bool.not_true,Bool.not_false,Bool.or_false,List.nil_append,eqT h1,eqF f4,eqF f5,eqF f6,tk,if_pos h1]
    rfl
   |cons m r=>
    have hkm:=hk m (by simp)
    have hkr:∀ t ∈ r,qo t:=fun t ht=>hk t (List.mem_cons_of_mem _ (List.mem_cons_of_mem _ ht))
    have hlr:r.length<=2000:=by simp only[List.length_cons] at hl;omega
    have hC:=fun mb=>zrz tag kd mb e he r  hkr
    by_cases h4:m.1=4
    ·have hne:(m.2.1 != ([]:List UInt8))=true:=by simpa using(hkm.2.2 h4).1
     have hb:=zqK 3000 m.2.1 (by have:=hkm.2.1;omega) 3000 0 (by omega) (by have:=hkm.2.1;omega)
     rw[show((0:Nat):Int)=(0:Int) from rfl,List.drop_zero] at hb
     have hS:zgP m=m.2.1.all zdT:=by unfold zgP;rw[if_pos h4]
     simp only[qH,cond_true,cond_false,zI,zgw,qI,Option.bind_some,zr,zn,Bool.and_true,Bool.not_true,Bool.true_or,List.cons_append,eqT h1,eqT h4,neF h4,hne,hb,tk,if_pos h1,tkM,hS]
     cases m.2.1.all zdT with
     |true=>simp only[if_true,zl,hC]
     |false=>
      simp only[Bool.false_eq_true,if_false,zl]
      rfl
    ·have hS:zgP m=(m.1==5||m.1==6):=by unfold zgP;rw[if_neg h4]
     simp only[qH,cond_true,cond_false,zI,zgw,qI,Option.bind_some,zr,zn,Bool.and_true,Bool.not_true,Bool.false_or,List.cons_append,eqT h1,eqF h4,neT h4,tk,if_pos h1,tkM,hS]
     cases(m.1==(5:Int)||m.1==(6:Int)) with
     |true=>simp only[cond_false,Bool.not_true,if_true,hC]
     |false=>
      simp only[cond_true,Bool.not_false,Bool.false_eq_true,if_false]
      rfl
  ·simp only[qH,cond_true,zI,zgw,qI,Option.bind_some,zr,zn,Bool.and_true,Bool.not_false,eqF h1,tk,if_neg h1]
   rfl
theorem zrr(tag:List UInt8)(kd:Int)(e:Tok)(he:e.1=0)(r:List Tok)(hl:r.length<=2000)(hk:∀ t ∈ r,qo t):B6 3000 tag kd (r++[e])=zly tag (tk 1 r fun _ r=>tkM r fun m r=>tk 1 r fun _ r=>(zgu r).map fun p=>cA tag kd m.2.1 p.1 p.2):=by
 have f1:¬ e.1=1:=by omega
 have f4:¬ e.1=4:=by omega
 have f5:¬ e.1=5:=by omega
 have f6:¬ e.1=6:=by omega
 cases r with
 |nil=>
  simp only[List.nil_append]
  unfold B6
  simp only[qH,cond_true,zI,zgw,qI,Option.bind_some,zr,zn,Bool.and_true,Bool.not_false,eqF f1]
  rfl
 |cons s r=>
  simp only[List.cons_append]
  unfold B6
  by_cases h1:s.1=1
  ·cases r with
   |nil=>
    simp only[qH,cond_true,cond_false,zI,zgw,qI,Option.bind_some,zr,zn,Bool.and_true,Bool.not_true,Bool.not_false,Bool.or_false,List.nil_append,eqT h1,eqF f4,eqF f5,eqF f6,tk,if_pos h1]
    rfl
   |cons m r=>
    have hkm:=hk m (by simp)
    have hkr:∀ t ∈ r,qo t:=fun t ht=>hk t (List.mem_cons_of_mem _ (List.mem_cons_of_mem _ ht))
    have hlr:r.length<=2000:=by simp only[List.length_cons] at hl;omega
    have hC:=fun mb=>zru tag kd mb e he r hlr hkr
    by_cases h4:m.1=4
    ·have hne:(m.2.1 != ([]:List UInt8))=true:=by simpa using(hkm.2.2 h4).1
     have hb:=zqL 3000 m.2.1 (by have:=hkm.2.1;omega) 3000 0 (by omega) (by have:=hkm.2.1;omega)
     rw[show((0:Nat):Int)=(0:Int) from rfl,List.drop_zero] at hb
     have hS:zgP m=m.2.1.all zdT:=by unfold zgP;rw[if_pos h4]
     simp only[qH,cond_true,cond_false,zI,zgw,qI,Option.bind_some,zr,zn,Bool.and_true,Bool.not_true,Bool.true_or,List.cons_append,eqT h1,eqT h4,neF h4,hne,hb,tk,if_pos h1,tkM,hS]
     cases m.2.1.all zdT with
     |true=>simp only[if_true,zl,hC];rfl
     |false=>
      simp only[Bool.false_eq_true,if_false,zl]
      rfl
    ·have hS:zgP m=(m.1==5||m.1==6):=by unfold zgP;rw[if_neg h4]
     simp only[qH,cond_true,cond_false,zI,zgw,qI,Option.bind_some,zr,zn,Bool.and_true,Bool.not_true,Bool.false_or,List.cons_append,eqT h1,eqF h4,neT h4,tk,if_pos h1,tkM,hS]
     cases(m.1==(5:Int)||m.1==(6:Int)) with
     |true=>simp only[cond_false,Bool.not_true,if_true,hC];rfl
     |false=>
      simp only[cond_true,Bool.not_false,Bool.false_eq_true,if_false]
      rfl
  ·simp only[qH,cond_true,zI,zgw,qI,Option.bind_some,zr,zn,Bool.and_true,Bool.not_false,eqF h1,tk,if_neg h1]
   rfl
def itS:List Tok->Option Int
 | []=>none
 | [w]=>if w.1=4 then(fW true w.2.1).map (orI 0) else none
 |a::b::r=>zit (brS true (a::b::r))
theorem zpW(x:Int)(q:List Tok):zit (some (x,q))=tkE q x:=by cases q<;>rfl
theorem zrS(a:Tok)(h2:a.1=2)(r:List Tok):itS (a::r)=match zcU r with
  |none=>none
  |some (p,q)=>(zt (fW true) orI 0 p).bind fun x=>tkE q x:=by
 cases r with
 |nil=>
  have h4:¬ a.1=4:=by omega
  simp only[itS,if_neg h4,zcU]
 |cons b r=>
  unfold itS brS
  simp only[if_pos h2]
  cases hc:zcU (b::r) with
  |none=>rfl
  |some pq=>
   obtain⟨p,q⟩:=pq
   cases p with
   |nil=>rfl
   |cons t p=>
    simp only
    cases zt (fW true) orI 0 (t::p) with
    |none=>rfl
    |some x=>simp only[Option.map_some,Option.bind_some,zpW]
theorem zrw(tag:List UInt8)(kd:Int)(st:List (Int×Int))(e:Tok)(he:e.1=0)(r:List Tok)(hl:r.length<=2000)(hk:∀ t ∈ r,qo t):D7 3000 tag kd st (r++[e])=zly tag ((itS r).map fun x=>cI tag kd st x):=by
 have f2:¬ e.1=2:=by omega
 have f4:¬ e.1=4:=by omega
 have f3:¬ e.1=3:=by omega
 cases r with
 |nil=>
  simp only[List.nil_append]
  unfold D7
  simp only[qH,cond_true,zI,qI,Option.bind_some,zr,zn,Bool.and_true,Bool.not_false,neT f2,eqF f4]
  rfl
 |cons a r=>
  have hkr:∀ t ∈ r,qo t:=fun t ht=>hk t (List.mem_cons_of_mem _ ht)
  by_cases h2:a.1=2
  ·rw[zrS a h2 r]
   cases hc:zcU r with
   |none=>
    have hn:=zaY hc
    have hl144:=zfW tag kd st 0 e [] (.inl he) r 0 3000 (fun t ht=>⟨hkr t ht,hn t ht⟩) (by simp only[List.length_cons] at hl;omega)
    have:∃ y,zy 3000 3000 (r++[e]) tag kd st 0 0=some (.inl y):=by
     cases hw:zt (fW true) orI 0 r with
     |none=>rw[hw] at hl144;exact hl144
     |some x=>rw[hw] at hl144;exact hl144.2 f3
    obtain⟨y,hy⟩:=this
    simp only[List.cons_append]
    unfold D7
    simp only[qH,cond_true,cond_false,zI,qI,Option.bind_some,zr,zn,Bool.and_true,Bool.not_true,neF h2,eqT h2,hy,zl]
    rfl
   |some pq=>
    obtain⟨p,q⟩:=pq
    obtain⟨z,z1,z2,z3⟩:=kN hc
    subst z2
    have hkq:∀ t ∈ q,qo t:=fun t ht=>hkr t (List.mem_append_right _ (List.mem_cons_of_mem _ ht))
    rw[show(a::(p++z::q))++[e]=a::(p++z::(q++[e])) from by simp]
    have hl144:=zfW tag kd st 0 z (q++[e]) (.inr z1) p 0 3000 (fun u hu=>⟨hkr u (List.mem_append_left _ hu),z3 u hu⟩) (by simp only[List.length_cons,List.length_append] at hl |-;omega)
    unfold D7
    cases hw:zt (fW true) orI 0 p with
    |none=>
     rw[hw] at hl144
     obtain⟨y,hy⟩:=hl144
     simp only[qH,cond_true,cond_false,zI,qI,Option.bind_some,zr,zn,Bool.and_true,Bool.not_true,neF h2,eqT h2,hy,zl,hw,Option.bind_none]
     rfl
    |some x=>
     rw[hw] at hl144
     have hy:=hl144.1 z1
     cases q with
     |nil=>
      simp only[List.nil_append] at hy
      simp only[qH,cond_true,cond_false,zI,qI,Option.bind_some,zr,zn,Bool.and_true,Bool.not_true,List.nil_append,neF h2,eqT h2,hy,zl,hw,eqT z1,eqT he]
      rfl
     |cons t q=>
      have h0:¬ t.1=0:=by have:=(hkq t (List.mem_cons_self ..)).1;omega
      simp only[List.cons_append] at hy
      simp only[qH,cond_true,cond_false,zI,qI,Option.bind_some,zr,zn,Bool.and_true,Bool.not_true,Bool.not_false,List.cons_append,neF h2,eqT h2,hy,zl,hw,eqT z1,eqF h0]
      rfl
  ·have hka:=hk a (List.mem_cons_self ..)
   have hi:=zhK _ hka.2.1
   simp only[List.cons_append]
   unfold D7
   by_cases h4:a.1=4
   ·by_cases h0:xW a.2.1=0
    ·have hd:decide (0<xW a.2.1)=false:=by simp;omega
     have hs:itS (a::r)=none:=by
      cases r with
      |nil=>simp only[itS,if_pos h4,zj2 h0,Option.map_none]
      |cons b r=>simp only[itS,brS,if_neg h2,zit]
     simp only[qH,cond_true,cond_false,zI,qI,Option.bind_some,zr,zn,Bool.and_true,Bool.not_true,Bool.not_false,neT h2,eqT h4,zb3 _ hka.2.1,hd,hs]
     rfl
    ·have hd:decide (0<xW a.2.1)=true:=by simp;omega
     cases r with
     |nil=>
      simp only[qH,cond_true,cond_false,zI,qI,Option.bind_some,zr,zn,Bool.and_true,Bool.not_true,List.nil_append,neT h2,eqT h4,zb3 _ hka.2.1,hd,itS,if_pos h4,zj3 h0,Option.map_some,eqT he]
      rfl
     |cons b r=>
      have hb0:¬ b.1=0:=by have:=(hkr b (List.mem_cons_self ..)).1;omega
      have hs:itS (a::b::r)=none:=by simp only[itS,brS,if_neg h2,zit]
      simp only[qH,cond_true,cond_false,zI,qI,Option.bind_some,zr,zn,Bool.and_true,Bool.not_true,Bool.not_false,List.cons_append,neT h2,eqT h4,zb3 _ hka.2.1,hd,hs,eqF hb0]
      rfl
   ·have hs:itS (a::r)=none:=by
     cases r with
     |nil=>simp only[itS,if_neg h4]
     |cons b r=>simp only[itS,brS,if_neg h2,zit]
    simp only[qH,cond_true,zI,qI,Option.bind_some,zr,zn,Bool.and_true,Bool.not_false,neT h2,eqF h4,hs]
    rfl
theorem zmI(tag:List UInt8)(kd:Int)(st:List (Int×Int))(md:Int)(sl:Bool)(f:UInt8)(e:Tok)(he:e.1=0)(z:Tok)(hz:z.1=3)(q:List Tok)(hk:∀ t ∈ q,qo t):G8 3000 tag tag kd st md sl f (z::(q++[e]))=zly tag (tkE q (cS tag kd st md sl f)):=by
 unfold G8
 cases q with
 |nil=>simp only[qH,cond_true,cond_false,zI,qI,Option.bind_some,zr,zn,Bool.and_true,Bool.not_true,List.nil_append,eqT hz,eqT he];rfl
 |cons t q=>
  have h0:¬ t.1=0:=by have:=(hk t (List.mem_cons_self ..)).1;omega
  simp only[qH,cond_true,cond_false,zI,qI,Option.bind_some,zr,zn,Bool.and_true,Bool.not_true,Bool.not_false,List.cons_append,eqT hz,eqF h0];rfl
def znf(r:List Tok):Option UInt8:=(match zit (brS false r) with
 |some x=>some x
 |none=>zt (fW false) orI 0 r).map zaL
theorem zng(a:Tok)(h2:a.1=2)(r:List Tok):znf (a::r)=match zcU r with
  |none=>none
  |some ([],q)=>tkE q 0
  |some (t::p,q)=>(zt (fW false) orI 0 (t::p)).bind fun x=>tkE q (zaL x):=by
 have h4:¬ a.1=4:=by omega
 have hw:zt (fW false) orI 0 (a::r)=none:=by
  cases r with
  |nil=>simp only[zt,if_neg h4]
  |cons b r=>simp only[zt,if_neg h4]
 unfold znf
 rw[hw]
 simp only[brS,if_pos h2]
 cases hc:zcU r with
 |none=>rfl
 |some pq=>
  obtain⟨p,q⟩:=pq
  cases p with
  |nil=>cases q<;>rfl
  |cons t p=>
   simp only
   cases zt (fW false) orI 0 (t::p) with
   |none=>rfl
   |some x=>cases q<;>rfl
theorem znh(r:List Tok)(h:brS false r=none):znf r=(zt (fW false) orI 0 r).map zaL:=by
 unfold znf
 rw[h];rfl
theorem zk0(tag:List UInt8)(kd:Int)(st:List (Int×Int))(md:Int)(sl:Bool)(e:Tok)(he:e.1=0)(r:List Tok)(hl:r.length<=2000)(hk:∀ t ∈ r,qo t)(hb:brS false r=none)(t:Tok)(r':List Tok)(hr:r++[e]=t::r')(h2:¬ t.1=2):D8 3000 tag kd st md sl (r++[e])=zly tag ((znf r).map fun f=>cS tag kd st md sl f):=by
 rw[znh r hb]
 have h206:=ziX tag kd st md sl e [] (.inl he) r 0 3000 (fun u hu=>⟨hk u hu,by have:=(hk u hu).1;omega⟩) (by omega)
 obtain⟨o,o1,o2,o3⟩:=zlO r 0 (by omega)
 rw[show UInt8.ofNat 0=(0:UInt8) from rfl] at o3
 rw[show((0:Nat):Int)=(0:Int) from rfl] at o2
 rw[hr] at h206 |-
 unfold D8
 cases o with
 |none=>
  rw[o3] at h206
  simp only[Option.map_none] at h206
  obtain⟨y,hy⟩:=h206
  simp only[qH,cond_true,cond_false,zI,qI,Option.bind_some,zr,zn,Bool.and_true,Bool.not_false,eqF h2,hy,zl,o2,Option.map_none]
  rfl
 |some n=>
  rw[o3] at h206
  simp only[Option.map_some] at h206
  have hy:=h206.1 he
  have hn:=o1 n rfl
  simp only[qH,cond_true,cond_false,zI,qI,Option.bind_some,zr,zn,Bool.and_true,Bool.not_true,Bool.not_false,eqF h2,hy,zl,o2,Option.map_some,eqT he,wc (show n<256 by omega)]
  rfl
theorem zrx(tag:List UInt8)(kd:Int)(st:List (Int×Int))(md:Int)(sl:Bool)(e:Tok)(he:e.1=0)(r:List Tok)(hl:r.length<=2000)(hk:∀ t ∈ r,qo t):D8 3000 tag kd st md sl (r++[e])=zly tag ((znf r).map fun f=>cS tag kd st md sl f):=by
 have f2:¬ e.1=2:=by omega
 have f3:¬ e.1=3:=by omega
 cases r with
 |nil=>exact zk0 tag kd st md sl e he [] (by simp) (fun _ h=>by cases h) rfl e [] rfl f2
 |cons a r=>
  have hkr:∀ t ∈ r,qo t:=fun t ht=>hk t (List.mem_cons_of_mem _ ht)
  by_cases h2:a.1=2
  ·rw[zng a h2 r]
   cases hc:zcU r with
   |none=>
    have hn:=zaY hc
    have hl179:=zfX tag kd st md sl e [] (.inl he) r 0 3000 (fun t ht=>⟨hkr t ht,hn t ht⟩) (by simp only[List.length_cons] at hl;omega)
    have:∃ y,zz 3000 3000 (r++[e]) tag kd st md sl 0=some (.inl y):=by
     cases hw:zt fP orP 0 r with
     |none=>rw[hw] at hl179;exact hl179
     |some x=>rw[hw] at hl179;exact hl179.2 f3
    obtain⟨y,hy⟩:=this
    obtain⟨t,r',hr,ht⟩:=zlh r e
    have ht3:¬ t.1=3:=by
     rcases ht with rfl|ht
     ·exact f3
     ·exact hn t ht
    simp only[List.cons_append]
    rw[hr] at hy |-
    unfold D8
    simp only[qH,cond_true,cond_false,zI,qI,Option.bind_some,zr,zn,Bool.and_true,Bool.not_true,eqT h2,neT ht3,hy,zl]
    rfl
   |some pq=>
    obtain⟨p,q⟩:=pq
    obtain⟨z,z1,z2,z3⟩:=kN hc
    subst z2
    have hkq:∀ t ∈ q,qo t:=fun t ht=>hkr t (List.mem_append_right _ (List.mem_cons_of_mem _ ht))
    rw[show(a::(p++z::q))++[e]=a::(p++z::(q++[e])) from by simp]
    cases p with
    |nil=>
     unfold D8
     simp only[qH,cond_true,cond_false,zI,qI,Option.bind_some,zr,zn,Bool.and_true,Bool.not_true,List.nil_append,eqT h2,neF z1,zmI tag kd st md sl _ e he z z1 q hkq]
     cases q<;>rfl
    |cons t p=>
     have hl179:=zfX tag kd st md sl z (q++[e]) (.inr z1) (t::p) 0 3000 (fun u hu=>⟨hkr u (List.mem_append_left _ hu),z3 u hu⟩) (by simp only[List.length_cons,List.length_append] at hl |-;omega)
     obtain⟨o,o1,o2,o3⟩:=zlO (t::p) 0 (by omega)
     rw[show UInt8.ofNat 0=(0:UInt8) from rfl] at o3
     rw[show((0:Nat):Int)=(0:Int) from rfl] at o2
     have ht3:=z3 t (List.mem_cons_self ..)
     unfold D8
     cases o with
     |none=>
      rw[o3] at hl179
      simp only[Option.map_none,List.cons_append] at hl179
      obtain⟨y,hy⟩:=hl179
      simp only[qH,cond_true,cond_false,zI,qI,Option.bind_some,zr,zn,Bool.and_true,Bool.not_true,List.cons_append,eqT h2,neT ht3,hy,zl,o2,Option.map_none,Option.bind_none]
      rfl
     |some n=>
      rw[o3] at hl179
      simp only[Option.map_some,List.cons_append] at hl179
      have hy:=hl179.1 z1
      have hn:=o1 n rfl
      simp only[qH,cond_true,cond_false,zI,qI,Option.bind_some,zr,zn,Bool.and_true,Bool.not_true,List.cons_append,eqT h2,neT ht3,hy,zl,o2,Option.map_some,zmI tag kd st md sl _ e he z z1 q hkq,wc (show n<256 by omega)]
      cases q<;>rfl
  ·exact zk0 tag kd st md sl e he (a::r) hl hk (by simp only[brS,if_neg h2]) a (r++[e]) rfl h2
def zlA(s:List UInt8):Option (List (Int×Int)):=jz (qG 44 s)
theorem zjB(s:List UInt8)(hs:s.length<=2000):jx 3000 s=some (match zlA s with
  |some l=>(l,true,())
  |none=>([],false,())):=zp6 s hs
theorem zp5(s:List UInt8)(hs:s.length<=2000):wO 3000 s=some (match zlA s with
  |some l=>(l,true,())
  |none=>([],false,())):=zsw s hs
def SB7(tag:List UInt8)(kd:Int)(r:List Tok):Option (El uS2):=tk 1 r fun _ r=>tk 4 r fun t r=>(zlA t.2.1).bind fun st=>tk 1 r fun _ r=>(itS r).map fun x=>cI tag kd st x
def SB8(tag:List UInt8)(kd:Int)(r:List Tok):Option (El uS2):=tk 1 r fun _ r=>tk 4 r fun t r=>(zlA t.2.1).bind fun st=>tk 1 r fun _ r=>tk 4 r fun w r=>(zhZ w.2.1).bind fun mb=>tk 1 r fun _ r=>(znf r).map fun f=>cS tag kd st mb.1 mb.2 f
theorem zrs(tag:List UInt8)(kd:Int)(e:Tok)(he:e.1=0)(r:List Tok)(hl:r.length<=2000)(hk:∀ t ∈ r,qo t):B7 3000 tag kd (r++[e])=zly tag (SB7 tag kd r):=by
 have f1:¬ e.1=1:=by omega
 have f4:¬ e.1=4:=by omega
 unfold SB7
 cases r with
 |nil=>
  simp only[List.nil_append]
  unfold B7
  simp only[qH,cond_true,zI,qI,Option.bind_some,zr,zn,Bool.and_true,Bool.not_false,eqF f1]
  rfl
 |cons s r=>
  simp only[List.cons_append]
  unfold B7
  by_cases h1:s.1=1
  ·cases r with
   |nil=>
    simp only[qH,cond_true,cond_false,zI,qI,Option.bind_some,zr,zn,Bool.and_true,Bool.not_true,Bool.not_false,List.nil_append,eqT h1,eqF f4,tk,if_pos h1]
    rfl
   |cons t r=>
    have hkt:=hk t (by simp)
    by_cases h4:t.1=4
    ·have hset:=zjB t.2.1 hkt.2.1
     cases hs:zlA t.2.1 with
     |none=>
      rw[hs] at hset
      simp only[qH,cond_true,cond_false,zI,qI,Option.bind_some,zr,zn,Bool.and_true,Bool.not_true,Bool.not_false,List.cons_append,eqT h1,eqT h4,hset,tk,if_pos h1,if_pos h4,hs,Option.bind_none]
      rfl
     |some st=>
      rw[hs] at hset
      cases r with
      |nil=>
       simp only[qH,cond_true,cond_false,zI,qI,Option.bind_some,zr,zn,Bool.and_true,Bool.not_true,Bool.not_false,List.cons_append,List.nil_append,eqT h1,eqT h4,hset,eqF f1,tk,if_pos h1,if_pos h4,hs]
       rfl
      |cons s2 r=>
       have hkr:∀ t ∈ r,qo t:=fun u hu=>hk u (List.mem_cons_of_mem _ (List.mem_cons_of_mem _ (List.mem_cons_of_mem _ hu)))
       have hlr:r.length<=2000:=by simp only[List.length_cons] at hl;omega
       by_cases h5:s2.1=1
       ·simp only[qH,cond_true,cond_false,zI,qI,Option.bind_some,zr,zn,Bool.and_true,Bool.not_true,List.cons_append,eqT h1,eqT h4,hset,eqT h5,tk,if_pos h1,if_pos h4,hs,if_pos h5]
        exact zrw tag kd st e he r hlr hkr
       ·simp only[qH,cond_true,cond_false,zI,qI,Option.bind_some,zr,zn,Bool.and_true,Bool.not_true,Bool.not_false,List.cons_append,eqT h1,eqT h4,hset,eqF h5,tk,if_pos h1,if_pos h4,hs,if_neg h5]
        rfl
    ·simp only[qH,cond_true,cond_false,zI,qI,Option.bind_some,zr,zn,Bool.and_true,Bool.not_true,Bool.not_false,List.cons_append,eqT h1,eqF h4,tk,if_pos h1,if_neg h4]
     rfl
  ·simp only[qH,cond_true,zI,qI,Option.bind_some,zr,zn,Bool.and_true,Bool.not_false,eqF h1,tk,if_neg h1]
   rfl
theorem zrt(tag:List UInt8)(kd:Int)(e:Tok)(he:e.1=0)(r:List Tok)(hl:r.length<=2000)(hk:∀ t ∈ r,qo t):B8 3000 tag kd (r++[e])=zly tag (SB8 tag kd r):=by
 have f1:¬ e.1=1:=by omega
 have f4:¬ e.1=4:=by omega
 unfold SB8
 cases r with
 |nil=>
  simp only[List.nil_append]
  unfold B8
  simp only[qH,cond_true,zI,qI,Option.bind_some,zr,zn,Bool.and_true,Bool.not_false,eqF f1]
  rfl
 |cons s r=>
  simp only[List.cons_append]
  unfold B8
  by_cases h1:s.1=1
  ·cases r with
   |nil=>
    simp only[qH,cond_true,cond_false,zI,qI,Option.bind_some,zr,zn,Bool.and_true,Bool.not_true,Bool.not_false,List.nil_append,eqT h1,eqF f4,tk,if_pos h1]
    rfl
   |cons t r=>
    have hkt:=hk t (by simp)
    by_cases h4:t.1=4
    ·have hset:=zjB t.2.1 hkt.2.1
     cases hs:zlA t.2.1 with
     |none=>
      rw[hs] at hset
      simp only[qH,cond_true,cond_false,zI,qI,Option.bind_some,zr,zn,Bool.and_true,Bool.not_true,Bool.not_false,List.cons_append,eqT h1,eqT h4,hset,tk,if_pos h1,if_pos h4,hs,Option.bind_none]
      rfl
     |some st=>
      rw[hs] at hset
      cases r with
      |nil=>
       simp only[qH,cond_true,cond_false,zI,qI,Option.bind_some,zr,zn,Bool.and_true,Bool.not_true,Bool.not_false,List.cons_append,List.nil_append,eqT h1,eqT h4,hset,eqF f1,tk,if_pos h1,if_pos h4,hs]
       rfl
      |cons s2 r=>
       have hkr:∀ t ∈ r,qo t:=fun u hu=>hk u (List.mem_cons_of_mem _ (List.mem_cons_of_mem _ (List.mem_cons_of_mem _ hu)))
       have hlr:r.length<=2000:=by simp only[List.length_cons] at hl;omega
       by_cases h5:s2.1=1
       ·simp only[qH,cond_true,cond_false,zI,qI,Option.bind_some,zr,zn,Bool.and_true,Bool.not_true,List.cons_append,eqT h1,eqT h4,hset,eqT h5,tk,if_pos h1,if_pos h4,hs,if_pos h5]
        cases r with
        |nil=>
         simp only[qH,cond_true,qI,zr,zn,Bool.not_false,List.nil_append,eqF f4]
         rfl
        |cons w r=>
         have hkw:=hkr w (by simp)
         by_cases h6:w.1=4
         ·have hup:=zcv w.2.1 hkw.2.1
          obtain⟨u,b,i,hcut,hix,hmo⟩:=zjc (w.2.1.map up) (by rw[List.length_map];exact hkw.2.1)
          have hmS:zhZ w.2.1=zkt (w.2.1.map up):=rfl
          cases hm:zkt (w.2.1.map up) with
          |none=>
           rw[hm] at hmo
           simp only at hmo
           have hd:decide ((0:Int)<=i)=false:=by rw[hmo];rfl
           simp only[qH,cond_true,cond_false,qI,Option.bind_some,zr,zn,Bool.not_true,Bool.not_false,List.cons_append,eqT h6,hup,hcut,hix,hd,if_pos h6,hmS,hm,Option.bind_none]
           rfl
          |some mb=>
           obtain⟨m,b'⟩:=mb
           rw[hm] at hmo
           obtain⟨hm1,hm2,hm3⟩:=hmo
           subst hm1 hm2
           have hd:decide ((0:Int)<=i)=true:=by simpa using hm3
           cases r with
           |nil=>
            simp only[qH,cond_true,cond_false,qI,Option.bind_some,zr,zn,Bool.not_true,Bool.not_false,List.cons_append,List.nil_append,eqT h6,hup,hcut,hix,hd,if_pos h6,hmS,hm,eqF f1]
            rfl
           |cons s3 r=>
            by_cases h7:s3.1=1
            ·simp only[qH,cond_true,cond_false,qI,Option.bind_some,zr,zn,Bool.not_true,List.cons_append,eqT h6,hup,hcut,hix,hd,if_pos h6,hmS,hm,eqT h7,if_pos h7]
             exact zrx tag kd st i b' e he r (by simp only[List.length_cons] at hlr;omega) (fun u hu=>hkr u (List.mem_cons_of_mem _ (List.mem_cons_of_mem _ hu)))
            ·simp only[qH,cond_true,cond_false,qI,Option.bind_some,zr,zn,Bool.not_true,Bool.not_false,List.cons_append,eqT h6,hup,hcut,hix,hd,if_pos h6,hmS,hm,eqF h7,if_neg h7]
             rfl
         ·simp only[qH,cond_true,qI,zr,zn,Bool.not_false,List.cons_append,eqF h6,if_neg h6]
          rfl
       ·simp only[qH,cond_true,cond_false,zI,qI,Option.bind_some,zr,zn,Bool.and_true,Bool.not_true,Bool.not_false,List.cons_append,eqT h1,eqT h4,hset,eqF h5,tk,if_pos h1,if_pos h4,hs,if_neg h5]
        rfl
    ·simp only[qH,cond_true,cond_false,zI,qI,Option.bind_some,zr,zn,Bool.and_true,Bool.not_true,Bool.not_false,List.cons_append,eqT h1,eqF h4,tk,if_pos h1,if_neg h4]
     rfl
  ·simp only[qH,cond_true,zI,qI,Option.bind_some,zr,zn,Bool.and_true,Bool.not_false,eqF h1,tk,if_neg h1]
   rfl
def SB5(tag:List UInt8)(kd:Int)(r:List Tok):Option (El uS2):=tk 1 r fun _ r=>tkM r fun m r=>tkE r (cA tag kd m.2.1 0 [])
def SB6(tag:List UInt8)(kd:Int)(r:List Tok):Option (El uS2):=tk 1 r fun _ r=>tkM r fun m r=>tk 1 r fun _ r=>(zgu r).map fun p=>cA tag kd m.2.1 p.1 p.2
def ziB(tag:List UInt8)(r:List Tok):Option (El uS2):=tk 4 r fun w r=>
 if zaH w.2.1=0 then none
 else if zaH w.2.1<=4 then tkE r (cA tag (zaH w.2.1) [] 0 [])
 else if zaH w.2.1=5 then SB5 tag (zaH w.2.1) r
 else if zaH w.2.1=6 then SB6 tag (zaH w.2.1) r
 else if zaH w.2.1=7 then SB7 tag (zaH w.2.1) r
 else SB8 tag (zaH w.2.1) r
def BR(o:Option ((El uS2)×Bool×Unit))(s:Option (El uS2)):Prop:=match s with
 |some c=>o=some (c,true,())
 |none=>∃ c,o=some (c,false,())
theorem ko{c:El uS2}{s:Option (El uS2)}(h:s=none):BR (some (c,false,())) s:=by
 rw[h];exact⟨c,rfl⟩
theorem zlj{α:Type}{l:List α}{k n:Nat}(h:k<=l.length)(hn:n<=k):decide ((((List.length l):Nat):Int)<((n:Nat):Int))=false:=by simp;omega
theorem zlk{α:Type}{l:List α}{n:Nat}(h:l.length≠n):((((List.length l):Nat):Int)==((n:Nat):Int))=false:=by simp;omega
theorem zmL(tag:List UInt8)(kd:Int)(a:Tok):SB5 tag kd []=none/\SB5 tag kd [a]=none:=⟨rfl,by
 unfold SB5 tk tkM
 by_cases h:a.1=1
 ·simp only[if_pos h]
 ·simp only[if_neg h]⟩
theorem zmM(tag:List UInt8)(kd:Int)(a:Tok):SB6 tag kd []=none/\SB6 tag kd [a]=none:=⟨rfl,by
 unfold SB6 tk tkM
 by_cases h:a.1=1
 ·simp only[if_pos h]
 ·simp only[if_neg h]⟩
theorem zmN(tag:List UInt8)(kd:Int)(a:Tok):SB7 tag kd []=none/\SB7 tag kd [a]=none:=⟨rfl,by
 unfold SB7
 by_cases h:a.1=1
 ·simp only[tk,if_pos h]
 ·simp only[tk,if_neg h]⟩
theorem zmO(tag:List UInt8)(kd:Int)(a:Tok):SB8 tag kd []=none/\SB8 tag kd [a]=none:=⟨rfl,by
 unfold SB8
 by_cases h:a.1=1
 ·simp only[tk,if_pos h]
 ·simp only[tk,if_neg h]⟩
theorem zsZ(tag:List UInt8)(kd:Int)(s m:Tok)(r:List Tok):SB7 tag kd (s::m::r)=if s.1=1/\m.1=4 then(zlA m.2.1).bind fun st=>tk 1 r fun _ r=>(itS r).map fun x=>cI tag kd st x else none:=by
 unfold SB7
 by_cases h1:s.1=1
 ·by_cases h4:m.1=4
  ·rw[if_pos ⟨h1,h4⟩]
   simp only[tk,if_pos h1,if_pos h4]
  ·rw[if_neg (fun h=>h4 h.2)]
   simp only[tk,if_pos h1,if_neg h4]
 ·rw[if_neg (fun h=>h1 h.1)]
  simp only[tk,if_neg h1]
theorem zs0(tag:List UInt8)(kd:Int)(s m:Tok)(r:List Tok):SB8 tag kd (s::m::r)=if s.1=1/\m.1=4 then(zlA m.2.1).bind fun st=>tk 1 r fun _ r=>tk 4 r fun w r=>(zhZ w.2.1).bind fun mb=>tk 1 r fun _ r=>(znf r).map fun f=>cS tag kd st mb.1 mb.2 f else none:=by
 unfold SB8
 by_cases h1:s.1=1
 ·by_cases h4:m.1=4
  ·rw[if_pos ⟨h1,h4⟩]
   simp only[tk,if_pos h1,if_pos h4]
  ·rw[if_neg (fun h=>h4 h.2)]
   simp only[tk,if_pos h1,if_neg h4]
 ·rw[if_neg (fun h=>h1 h.1)]
  simp only[tk,if_neg h1]
theorem zsY(tag:List UInt8)(kd:Int)(s m:Tok)(r:List Tok):SB6 tag kd (s::m::r)=if s.1=1/\zgP m=true then tk 1 r fun _ r=>(zgu r).map fun p=>cA tag kd m.2.1 p.1 p.2 else none:=by
 unfold SB6
 by_cases h1:s.1=1
 ·by_cases h4:zgP m=true
  ·rw[if_pos ⟨h1,h4⟩]
   simp only[tk,tkM,if_pos h1,if_pos h4]
  ·rw[if_neg (fun h=>h4 h.2)]
   simp only[tk,tkM,if_pos h1,if_neg h4]
 ·rw[if_neg (fun h=>h1 h.1)]
  simp only[tk,if_neg h1]
theorem zsX(tag:List UInt8)(kd:Int)(s m:Tok)(r:List Tok):SB5 tag kd (s::m::r)=if s.1=1/\zgP m=true then tkE r (cA tag kd m.2.1 0 []) else none:=by
 unfold SB5
 by_cases h1:s.1=1
 ·by_cases h4:zgP m=true
  ·rw[if_pos ⟨h1,h4⟩]
   simp only[tk,tkM,if_pos h1,if_pos h4]
  ·rw[if_neg (fun h=>h4 h.2)]
   simp only[tk,tkM,if_pos h1,if_neg h4]
 ·rw[if_neg (fun h=>h1 h.1)]
  simp only[tk,if_neg h1]
theorem kn1{a b:Tok}{r:List Tok}{c:Bool}(h:(kc b != 115)=c):(nth .u8 ((a::b::r).map kc) 1 != (115:UInt8))=c:=h
theorem kn3{a b d e:Tok}{r:List Tok}{c:Bool}(h:(kc e != 115)=c):(nth .u8 ((a::b::d::e::r).map kc) 3 != (115:UInt8))=c:=h
theorem kn5{a b d e f g:Tok}{r:List Tok}{c:Bool}(h:(kc g != 115)=c):(nth .u8 ((a::b::d::e::f::g::r).map kc) 5 != (115:UInt8))=c:=h
theorem zwx(a b c:Tok)(r:List Tok):nth uS1 (@List.cons Tok a (b::c::r)) 2=c:=rfl
theorem zwy(a b c d e:Tok)(r:List Tok):nth uS1 (@List.cons Tok a (b::c::d::e::r)) 4=e:=rfl
theorem zs9(a b c d:Tok)(r:List Tok):ze (a::b::c::d::r) 4=r:=by rw[zci];rfl
theorem zuS(a b c d e f:Tok)(r:List Tok):ze (a::b::c::d::e::f::r) 6=r:=by rw[zci];rfl
theorem kcF{t:Tok}(h:qo t)(h1:t.1=1):(kc t != 115)=false:=by rw[zvL h,eqT h1];rfl
theorem kcT{t:Tok}(h:qo t)(h1:¬ t.1=1):(kc t != 115)=true:=by rw[zvL h,eqF h1];rfl
theorem zpl(tag:List UInt8)(l:List Tok)(hl:l.length<=2000)(hk:∀ t ∈ l,qo t):BR (zar 3000 tag l) (ziB tag l):=by
 cases l with
 |nil=>exact⟨_,rfl⟩
 |cons w r=>
  have e0:((((List.length (w::r)):Nat):Int)==(0:Int))=false:=zlk (n:=0) (by simp)
  have hkw:=hk w (List.mem_cons_self ..)
  have hks:=zl5 (w::r) hl hk
  have hkv:=zhM w.2.1 hkw.2.1
  have hkr:=zpv w.2.1 hkw.2.1
  unfold zar ziB
  simp only[e0,cond_false,qH,cond_true,qI,hkr,Option.bind_some,hks]
  by_cases h4:w.1=4
  ·simp only[neF h4,cond_false,tk,if_pos h4]
   generalize zaH w.2.1=k at hkv |-
   by_cases hz:k=0
   ·simp only[eqT hz,cond_true,show decide ((0:Int)<k)=false from by simp;omega,cond_false,if_pos hz]
    exact⟨_,rfl⟩
   ·simp only[eqF hz,cond_false,if_neg hz,show decide ((0:Int)<k)=true from by simp;omega,cond_true]
    by_cases hk4:k<=4
    ·simp only[show decide (k<=(4:Int))=true from by simpa using hk4,cond_true,if_pos hk4]
     cases r with
     |nil=>exact rfl
     |cons a r=>
      rw[show((((List.length (w::a::r)):Nat):Int)==(1:Int))=false from zlk (n:=1) (by simp)]
      exact⟨_,rfl⟩
    ·simp only[show decide (k<=(4:Int))=false from by simpa using hk4,cond_false,if_neg hk4]
     match r,hl,hk with
     | [],hl,hk=>
      simp only[show decide ((((List.length [w]):Nat):Int)<3)=true from rfl,cond_true]
      refine ko ?_
      split
      ·rfl
      ·split
       ·rfl
       ·split<;>rfl
     | [a],hl,hk=>
      simp only[show decide ((((List.length [w,a]):Nat):Int)<3)=true from rfl,cond_true]
      refine ko ?_
      rw[(zmL tag k a).2,(zmM tag k a).2,(zmN tag k a).2,(zmO tag k a).2]
      split
      ·rfl
      ·split
       ·rfl
       ·split<;>rfl
     |s::m::r,hl,hk=>
      have hs:=hk s (by simp)
      have hm:=hk m (by simp)
      have hkr:∀ t ∈ r,qo t:=fun t ht=>hk t (List.mem_cons_of_mem _ (List.mem_cons_of_mem _ (List.mem_cons_of_mem _ ht)))
      have hlr:r.length<=1997:=by simp only[List.length_cons] at hl;omega
      have e3:decide ((((List.length (w::s::m::r)):Nat):Int)<(3:Int))=false:=zlj (k:=3) (n:=3) (by simp) (by omega)
      have i1:inb (1:Int) (List.length ((w::s::m::r).map kc))=true:=z8 (i:=1) (by simp)
      have i2:inb (2:Int) (List.length (w::s::m::r))=true:=z8 (i:=2) (by simp)
      have hbox:=zrD m hm.2.1
      have hset:=zp5 m.2.1 hm.2.1
      rw[zsX,zsY,zsZ,zs0]
      by_cases h1:s.1=1
      ·simp only[e3,cond_false,i1,cond_true,i2,zwx]
       rw[kn1 (kcF hs h1)]
       simp only[cond_false]
       by_cases hk6:k<=6
       ·simp only[show decide (k<=(6:Int))=true from by simpa using hk6,cond_true,hbox,Option.bind_some]
        cases hb:zgP m with
        |false=>
         simp only[Bool.not_false,cond_true]
         refine ko ?_
         by_cases h5:k=5
         ·rw[if_pos h5,if_neg (fun h=>by cases h.2)]
         ·rw[if_neg h5,if_pos (show k=6 by omega),if_neg (fun h=>by cases h.2)]
        |true=>
         simp only[Bool.not_true,cond_false]
         by_cases h5:k=5
         ·simp only[eqT h5,cond_true,if_pos h5]
          rw[if_pos (And.intro h1 trivial)]
          cases r with
          |nil=>exact rfl
          |cons a r=>
           rw[show((((List.length (w::s::m::a::r)):Nat):Int)==(3:Int))=false from zlk (n:=3) (by simp)]
           exact⟨_,rfl⟩
         ·have h6:k=6:=by omega
          simp only[eqF h5,cond_false,if_neg h5,if_pos h6]
          rw[if_pos (And.intro h1 trivial)]
          cases r with
          |nil=>
           simp only[show decide ((((List.length [w,s,m]):Nat):Int)<4)=true from rfl,cond_true]
           exact⟨_,rfl⟩
          |cons s2 r=>
           have hs2:=hkr s2 (by simp)
           have e4:decide ((((List.length (w::s::m::s2::r)):Nat):Int)<(4:Int))=false:=zlj (k:=4) (n:=4) (by simp) (by omega)
           have i3:inb (3:Int) (List.length ((w::s::m::s2::r).map kc))=true:=z8 (i:=3) (by simp)
           have b4:z7 (4:Int) (w::s::m::s2::r)=true:=zcT (a:=4) (by simp)
           by_cases h7:s2.1=1
           ·have happ:=zrA tag k m.2.1 r (by simp only[List.length_cons] at hlr;omega) (fun t ht=>hkr t (List.mem_cons_of_mem _ ht))
            unfold cA at happ
            simp only[e4,cond_false,i3,cond_true,b4,Bool.and_true,zs9,tk,if_pos h7]
            rw[kn3 (kcF hs2 h7)]
            simp only[cond_false]
            cases ha:zgu r with
            |none=>
             rw[ha] at happ
             obtain⟨c,hc⟩:=happ
             rw[hc]
             exact⟨_,rfl⟩
            |some p=>
             obtain⟨f,d⟩:=p
             rw[ha] at happ
             simp only at happ
             rw[happ]
             rfl
           ·simp only[e4,cond_false,i3,cond_true,tk,if_neg h7]
            rw[kn3 (kcT hs2 h7)]
            simp only[cond_true]
            exact⟨_,rfl⟩
       ·have h5:¬ k=5:=by omega
        have h6:¬ k=6:=by omega
        simp only[show decide (k<=(6:Int))=false from by simpa using hk6,cond_false,hset,Option.bind_some,if_neg h5,if_neg h6]
        by_cases hm4:m.1=4
        ·rw[if_pos (And.intro h1 hm4),if_pos (And.intro h1 hm4)]
         simp only[neF hm4,cond_false]
         cases hst:zlA m.2.1 with
         |none=>
          simp only[Bool.not_false,cond_true,Option.bind_none]
          refine ko ?_
          split<;>rfl
         |some st=>
          simp only[Bool.not_true,cond_false,Option.bind_some]
          match r,hkr,hlr with
          | [],_,_=>
           simp only[show decide ((((List.length [w,s,m]):Nat):Int)<5)=true from rfl,cond_true]
           refine ko ?_
           split<;>rfl
          | [s2],_,_=>
           simp only[show decide ((((List.length [w,s,m,s2]):Nat):Int)<5)=true from rfl,cond_true]
           refine ko ?_
           by_cases h7:s2.1=1
           ·simp only[tk,if_pos h7]
            split<;>rfl
           ·simp only[tk,if_neg h7]
            split<;>rfl
          |s2::t::r,hkr,hlr=>
           have hs2:=hkr s2 (by simp)
           have ht:=hkr t (by simp)
           have hkr2:∀ u ∈ r,qo u:=fun u hu=>hkr u (List.mem_cons_of_mem _ (List.mem_cons_of_mem _ hu))
           have hlr2:r.length<=1995:=by simp only[List.length_cons] at hlr;omega
           have e5:decide ((((List.length (w::s::m::s2::t::r)):Nat):Int)<(5:Int))=false:=zlj (k:=5) (n:=5) (by simp) (by omega)
           have i3:inb (3:Int) (List.length ((w::s::m::s2::t::r).map kc))=true:=z8 (i:=3) (by simp)
           have b4:z7 (4:Int) (w::s::m::s2::t::r)=true:=zcT (a:=4) (by simp)
           have i4:inb (4:Int) (List.length (w::s::m::s2::t::r))=true:=z8 (i:=4) (by simp)
           by_cases h7:s2.1=1
           ·simp only[e5,cond_false,i3,cond_true,b4,Bool.and_true,zs9,tk,if_pos h7]
            rw[kn3 (kcF hs2 h7)]
            simp only[cond_false]
            by_cases hk7:k=7
            ·simp only[eqT hk7,cond_true,if_pos hk7]
             have hlist:=zhT true (t::r) (by simp only[List.length_cons];omega) (fun u hu=>by
              rcases List.mem_cons.1 hu with rfl|hu
              ·exact ht
              ·exact hkr2 u hu)
             cases r with
             |nil=>
              rw[show((((List.length [w,s,m,s2,t]):Nat):Int)==(5:Int))=true from rfl]
              have hwords:=zd4 true [t] (by simp) (fun u hu=>by rw[List.mem_singleton.1 hu];exact ht)
              have hl1:∃ v b,je 3000 [t] true=some (v,b,()):=by
               cases ho:zit (brS true [t]) with
               |none=>rw[ho] at hlist;obtain⟨v,hv⟩:=hlist;exact⟨v,false,hv⟩
               |some x=>rw[ho] at hlist;exact⟨x,true,hlist⟩
              obtain⟨v,b,hv⟩:=hl1
              simp only[hv,Option.bind_some,cond_true]
              have hi:itS [t]=zt (fW true) orI 0 [t]:=rfl
              rw[hi]
              cases ho:zt (fW true) orI 0 [t] with
              |none=>rw[ho] at hwords;obtain⟨v,hv⟩:=hwords;rw[hv];exact⟨_,rfl⟩
              |some x=>rw[ho] at hwords;simp only[WR] at hwords;rw[hwords];rfl
             |cons b r=>
              rw[show((((List.length (w::s::m::s2::t::b::r)):Nat):Int)==(5:Int))=false from zlk (n:=5) (by simp)]
              simp only[cond_false]
              have hi:itS (t::b::r)=zit (brS true (t::b::r)):=rfl
              rw[hi]
              cases ho:zit (brS true (t::b::r)) with
              |none=>rw[ho] at hlist;obtain⟨v,hv⟩:=hlist;rw[hv];exact⟨_,rfl⟩
              |some x=>rw[ho] at hlist;simp only[WR] at hlist;rw[hlist];rfl
            ·simp only[eqF hk7,cond_false,if_neg hk7,i4,cond_true,zwy,zpN t.2.1 ht.2.1]
             by_cases ht4:t.1=4
             ·simp only[neF ht4,cond_false,if_pos ht4]
              cases hmo:zhZ t.2.1 with
              |none=>
               simp only[zmc,Option.bind_some,show decide ((-1:Int)<0)=true from rfl,cond_true,Option.bind_none]
               exact⟨_,rfl⟩
              |some mb=>
               obtain⟨mo,sl⟩:=mb
               have hmo0:decide (mo<(0:Int))=false:=by
                obtain⟨w',b',i,_,_,h3⟩:=zjc (t.2.1.map up) (by rw[List.length_map];exact ht.2.1)
                rw[show zkt (t.2.1.map up)=some (mo,sl) from hmo] at h3
                obtain⟨h4,h5,h6⟩:=h3
                simp;omega
               simp only[zmc,Option.bind_some,hmo0,cond_false]
               match r,hkr2,hlr2 with
               | [],_,_=>
                simp only[show decide ((((List.length [w,s,m,s2,t]):Nat):Int)<7)=true from rfl,cond_true]
                exact⟨_,rfl⟩
               | [s3],_,_=>
                simp only[show decide ((((List.length [w,s,m,s2,t,s3]):Nat):Int)<7)=true from rfl,cond_true]
                refine ko ?_
                by_cases h8:s3.1=1
                ·simp only[if_pos h8];rfl
                ·simp only[if_neg h8]
               |s3::u::r,hkr2,hlr2=>
                have hs3:=hkr2 s3 (by simp)
                have e7:decide ((((List.length (w::s::m::s2::t::s3::u::r)):Nat):Int)<(7:Int))=false:=zlj (k:=7) (n:=7) (by simp) (by omega)
                have i5:inb (5:Int) (List.length ((w::s::m::s2::t::s3::u::r).map kc))=true:=z8 (i:=5) (by simp)
                have b6:z7 (6:Int) (w::s::m::s2::t::s3::u::r)=true:=zcT (a:=6) (by simp)
                by_cases h8:s3.1=1
                ·have hku:∀ v ∈ u::r,qo v:=fun v hv=>hkr2 v (List.mem_cons_of_mem _ hv)
                 have hlu:(u::r).length<=2000:=by simp only[List.length_cons] at hlr2 |-;omega
                 have hlist:=zhT false (u::r) hlu hku
                 have hwords:=zd4 false (u::r) hlu hku
                 simp only[e7,cond_false,i5,cond_true,b6,zuS,if_pos h8]
                 rw[kn5 (kcF hs3 h8)]
                 simp only[cond_false]
                 unfold znf
                 cases ho:zit (brS false (u::r)) with
                 |none=>
                  rw[ho] at hlist
                  obtain⟨v,hv⟩:=hlist
                  simp only[hv,Option.bind_some,Bool.not_false,cond_true]
                  cases hw:zt (fW false) orI 0 (u::r) with
                  |none=>rw[hw] at hwords;obtain⟨v',hv'⟩:=hwords;rw[hv'];exact⟨_,rfl⟩
                  |some x=>rw[hw] at hwords;simp only[WR] at hwords;rw[hwords];rfl
                 |some x=>
                  rw[ho] at hlist
                  simp only[WR] at hlist
                  simp only[hlist,Option.bind_some,Bool.not_true,cond_false]
                  rfl
                ·simp only[e7,cond_false,i5,cond_true,if_neg h8]
                 rw[kn5 (kcT hs3 h8)]
                 simp only[cond_true]
                 exact⟨_,rfl⟩
             ·cases hmo:zhZ t.2.1 with
              |none=>simp only[zmc,Option.bind_some,neT ht4,cond_true,if_neg ht4];exact⟨_,rfl⟩
              |some mb=>simp only[zmc,Option.bind_some,neT ht4,cond_true,if_neg ht4];exact⟨_,rfl⟩
           ·simp only[e5,cond_false,i3,cond_true,tk,if_neg h7]
            rw[kn3 (kcT hs2 h7)]
            simp only[cond_true]
            refine ko ?_
            split<;>rfl
        ·rw[if_neg (fun h:s.1=1/\m.1=4=>hm4 h.2),if_neg (fun h:s.1=1/\m.1=4=>hm4 h.2)]
         simp only[neT hm4,cond_true]
         refine ko ?_
         split<;>rfl
      ·simp only[e3,cond_false,i1,cond_true]
       rw[kn1 (kcT hs h1)]
       simp only[cond_true]
       refine ko ?_
       rw[if_neg (fun h:s.1=1/\zgP m=true=>h1 h.1),if_neg (fun h:s.1=1/\zgP m=true=>h1 h.1),if_neg (fun h:s.1=1/\m.1=4=>h1 h.1),if_neg (fun h:s.1=1/\m.1=4=>h1 h.1)]
       split
       ·rfl
       ·split
        ·rfl
        ·split<;>rfl
  ·simp only[neT h4,cond_true,tk,if_neg h4]
   exact⟨_,rfl⟩
def zeQ(b:List UInt8):El uS2×Bool:=
 if 0<run j8 b/\b[run j8 b]?=some 32 then
  (match zad (b.drop (run j8 b+1)) 3000 0 with
  |.inl l=>(match ziB (b.take (run j8 b)) l.dropLast with
   |some c=>(c,true)
   |none=>(zhF (b.take (run j8 b)),false))
  |.inr _=>(zhF (b.take (run j8 b)),false))
 else(zhF [],false)
theorem zmj(b:List UInt8)(hb:b.length<=2000):wK 3000 b=some ((zeQ b).1,(zeQ b).2,()):=by
 unfold wK
 rw[zqw 3000 b (by omega) (by omega)]
 unfold zsU zeQ
 by_cases h:0<run j8 b/\b[run j8 b]?=some 32
 ·have hlt:=(List.getElem?_eq_some_iff.1 h.2).1
  rw[if_pos h,if_pos h]
  generalize run j8 b=n at h hlt
  generalize b.take n=tag
  have hb1:z7 ((n+1:Nat):Int) b=true:=zcT (by omega)
  simp only[Option.bind_some,Bool.not_true,cond_false,hb1,Bool.and_true,cond_true,Int.toNat_natCast,zci]
  have hdl:(b.drop (n+1)).length<=2000:=by rw[List.length_drop];omega
  rw[zoV 3000 (b.drop (n+1)) (by omega) (by omega) (by omega)]
  unfold zsV
  cases ht:zad (b.drop (n+1)) 3000 0 with
  |inr a=>
   simp only[Option.bind_some,show decide (((a:Nat):Int)<(0:Int))=false from by simp,Bool.not_false,cond_true]
   rfl
  |inl l=>
   obtain⟨p,e,rfl,he,hk,hpl⟩:=zil hdl 3000 0 l (by omega) ht
   simp only[Option.bind_some,show decide ((-1:Int)<0)=true from rfl,Bool.not_true,cond_false,List.dropLast_concat]
   cases p with
   |nil=>
    have f4:¬ e.1=4:=by omega
    simp only[List.nil_append,qH,cond_true,zI,qI,Option.bind_some,eqF f4,Bool.not_false]
    rfl
   |cons w p=>
    have hkw:=hk w (List.mem_cons_self ..)
    have hkp:∀ t ∈ p,qo t:=fun t ht=>hk t (List.mem_cons_of_mem _ ht)
    have hlp:p.length<=2000:=by simp only[List.length_cons] at hpl;omega
    have hkv:=zhM w.2.1 hkw.2.1
    simp only[List.cons_append,qH,cond_true,zI,qI,Option.bind_some,zn,znw _ hkw.2.1]
    rw[show List.drop 1 (w::(p++[e]))=p++[e] from rfl]
    unfold ziB
    by_cases h4:w.1=4
    ·simp only[eqT h4,Bool.not_true,cond_false,tk,if_pos h4]
     generalize zaH w.2.1=k at hkv
     by_cases hz:k=0
     ·simp only[show decide ((0:Int)<k)=false from by simp;omega,Bool.not_false,cond_true,if_pos hz]
      rfl
     ·simp only[show decide ((0:Int)<k)=true from by simp;omega,Bool.not_true,cond_false,if_neg hz]
      have hR:∀ o:Option (El uS2),zly tag o=some ((match o with
        |some c=>(c,true)
        |none=>(zhF tag,false):El uS2×Bool).1,(match o with
        |some c=>(c,true)
        |none=>(zhF tag,false):El uS2×Bool).2,()):=fun o=>by cases o<;>rfl
      have hB1:=zrp tag k e he p hkp
      have hB5:=zrq tag k e he p hlp hkp
      have hB6:=zrr tag k e he p hlp hkp
      have hB7:=zrs tag k e he p hlp hkp
      have hB8:=zrt tag k e he p hlp hkp
      rw[hR] at hB1 hB5 hB6 hB7 hB8
      by_cases hk4:k<=4
      ·rw[if_pos hk4,<- hB1]
       by_cases q1:k=1
       ·simp only[eqT q1,cond_true]
       ·by_cases q2:k=2
        ·simp only[eqF q1,eqT q2,cond_true,cond_false]
        ·by_cases q3:k=3
         ·simp only[eqF q1,eqF q2,eqT q3,cond_true,cond_false]
         ·simp only[eqF q1,eqF q2,eqF q3,eqT (show k=4 by omega),cond_true,cond_false]
      ·rw[if_neg hk4]
       simp only[eqF (show ¬ k=1 by omega),eqF (show ¬ k=2 by omega),eqF (show ¬ k=3 by omega),eqF (show ¬ k=4 by omega),cond_false]
       by_cases h5:k=5
       ·simp only[eqT h5,cond_true,if_pos h5]
        exact hB5
       ·simp only[eqF h5,cond_false,if_neg h5]
        by_cases h6:k=6
        ·simp only[eqT h6,cond_true,if_pos h6]
         exact hB6
        ·simp only[eqF h6,cond_false,if_neg h6]
         by_cases h7:k=7
         ·simp only[eqT h7,cond_true,if_pos h7]
          exact hB7
         ·simp only[eqF h7,cond_false,if_neg h7,eqT (show k=8 by omega),cond_true]
          exact hB8
    ·simp only[eqF h4,Bool.not_false,cond_true,tk,if_neg h4]
     rfl
 ·rw[if_neg h,if_neg h]
  rfl
theorem zn7(b:List UInt8)(hb:b.length<=2000):xo 3000 b=some ((zeQ b).1,(zeQ b).2,()):=by
 unfold xo
 rw[zsE 3000 b (by omega) (by omega)]
 unfold zsU zeQ
 by_cases h:0<run j8 b/\b[run j8 b]?=some 32
 ·have hlt:=(List.getElem?_eq_some_iff.1 h.2).1
  rw[if_pos h,if_pos h]
  generalize run j8 b=n at h hlt
  generalize b.take n=tag
  have hb1:z7 ((n+1:Nat):Int) b=true:=zcT (by omega)
  simp only[Option.bind_some,Bool.not_true,cond_false,hb1,Bool.and_true,cond_true,Int.toNat_natCast,zci]
  have hdl:(b.drop (n+1)).length<=2000:=by rw[List.length_drop];omega
  rw[zqx 3000 (b.drop (n+1)) (by omega) (by omega) (by omega)]
  unfold zsV
  cases ht:zad (b.drop (n+1)) 3000 0 with
  |inr a=>
   simp only[Option.bind_some,show decide ((0:Int)<=((a:Nat):Int))=true from by simp,cond_true]
   rfl
  |inl l=>
   obtain⟨p,e,rfl,he,hk,hpl⟩:=zil hdl 3000 0 l (by omega) ht
   have hlen:(p++[e]).length=p.length+1:=by simp
   have hw:IntKind.wrap .i64 ((((List.length (p++[e])):Nat):Int)-1)=((p.length:Nat):Int):=by rw[hlen,wri (by omega) (by omega)];omega
   have hbn:=jf (a:=0) (b:=p.length) (n:=(p++[e]).length) (by omega) (by rw[hlen];omega)
   rw[show((0:Nat):Int)=(0:Int) from rfl] at hbn
   have hsl:slice (p++[e]) 0 p.length=p:=by rw[wG];simp
   have hbody:=zpl tag p (by omega) hk
   simp only[Option.bind_some,show decide ((0:Int) <= -1)=false from rfl,cond_false,List.dropLast_concat,hw,hbn,cond_true,Int.toNat_natCast,hsl]
   cases hs:ziB tag p with
   |none=>
    rw[hs] at hbody
    obtain⟨c,hc⟩:=hbody
    rw[hc]
    rfl
   |some c=>
    rw[hs] at hbody
    simp only[BR] at hbody
    rw[hbody]
    rfl
 ·rw[if_neg h,if_neg h]
  rfl
theorem kT{A:Type}{k:Int}{l:List Tok}{f:Tok->List Tok->Option A}{x:A}(h:tk k l f=some x):∃ t r,l=t::r/\t.1=k/\f t r=some x:=by
 cases l with
 |nil=>cases h
 |cons t r=>
  unfold tk at h
  simp only at h
  by_cases hk:t.1=k
  ·rw[if_pos hk] at h;exact⟨t,r,rfl,hk,h⟩
  ·rw[if_neg hk] at h;cases h
theorem zlJ{A:Type}{l:List Tok}{f:Tok->List Tok->Option A}{x:A}(h:tkM l f=some x):∃ t r,l=t::r/\zgP t=true/\f t r=some x:=by
 cases l with
 |nil=>cases h
 |cons t r=>
  unfold tkM at h
  simp only at h
  by_cases hk:zgP t=true
  ·rw[if_pos hk] at h;exact⟨t,r,rfl,hk,h⟩
  ·rw[if_neg hk] at h;cases h
theorem zlI{A:Type}{l:List Tok}{y x:A}(h:tkE l y=some x):l=[]/\y=x:=by
 cases l with
 |nil=>cases h;exact⟨rfl,rfl⟩
 |cons t r=>cases h
theorem zf9:∀ {l:List (List UInt8)} {o:List (Int×Int)},jz l=some o->o.length=l.length
 | [],o,h=>by cases h;rfl
 |s::l,o,h=>by
  unfold jz at h
  cases hr:zaB s with
  |none=>rw[hr] at h;cases h
  |some r=>
   cases ht:jz l with
   |none=>rw[hr,ht] at h;cases h
   |some t=>
    rw[hr,ht] at h
    cases h
    simp only[List.length_cons,zf9 ht]
theorem zlB{s:List UInt8}{o:List (Int×Int)}(h:zlA s=some o):0<o.length/\o.length<=s.length+1:=by
 rw[zf9 h]
 exact⟨(jS 44 s).1,(jS 44 s).2.1⟩
theorem zmX{tag:List UInt8}{l:List Tok}{c:El uS2}(hk:∀ t ∈ l,qo t)(h:ziB tag l=some c):
  (∃ k,1<=k/\k<=4/\c=cA tag k [] 0 [])\/(∃ m,m.length<=2000/\c=cA tag 5 m 0 [])\/(∃ m r f d,m.length<=2000/\zgu r=some (f,d)/\(∀ t ∈ r,qo t)/\c=cA tag 6 m f d)
  \/ (∃ s st r x,s.length<=2000/\zlA s=some st/\itS r=some x/\(∀ t ∈ r,qo t)/\c=cI tag 7 st x)
  \/ (∃ s st w r m b f,s.length<=2000/\zlA s=some st/\zhZ w=some (m,b)/\w.length<=2000/\znf r=some f/\(∀ t ∈ r,qo t)/\c=cS tag 8 st m b f):=by
 unfold ziB at h
 obtain⟨w,r,rfl,h4,h⟩:=kT h
 have hkw:=hk w (List.mem_cons_self ..)
 have hkr:∀ t ∈ r,qo t:=fun t ht=>hk t (List.mem_cons_of_mem _ ht)
 have hkv:=zhM w.2.1 hkw.2.1
 generalize zaH w.2.1=k at h hkv
 by_cases hz:k=0
 ·rw[if_pos hz] at h;cases h
 ·rw[if_neg hz] at h
  by_cases hk4:k<=4
  ·rw[if_pos hk4] at h
   obtain⟨h1,h2⟩:=zlI h
   exact .inl ⟨k,by omega,hk4,h2.symm⟩
  ·rw[if_neg hk4] at h
   by_cases h5:k=5
   ·rw[if_pos h5] at h
    subst h5
    obtain⟨s,r1,rfl,h6,h⟩:=kT h
    obtain⟨m,r2,rfl,h7,h⟩:=zlJ h
    obtain⟨h8,h9⟩:=zlI h
    exact .inr (.inl ⟨m.2.1,(hkr m (by simp)).2.1,h9.symm⟩)
   ·rw[if_neg h5] at h
    by_cases h6:k=6
    ·rw[if_pos h6] at h
     subst h6
     obtain⟨s,r1,rfl,h6,h⟩:=kT h
     obtain⟨m,r2,rfl,h7,h⟩:=zlJ h
     obtain⟨s2,r3,rfl,h8,h⟩:=kT h
     cases ha:zgu r3 with
     |none=>rw[ha] at h;cases h
     |some p=>
      rw[ha] at h
      cases h
      exact .inr (.inr (.inl ⟨m.2.1,r3,p.1,p.2,(hkr m (by simp)).2.1,ha,fun t ht=>hkr t (by simp [ht]),rfl⟩))
    ·rw[if_neg h6] at h
     by_cases h7:k=7
     ·rw[if_pos h7] at h
      subst h7
      obtain⟨s,r1,rfl,h6,h⟩:=kT h
      obtain⟨t,r2,rfl,h7,h⟩:=kT h
      cases hs:zlA t.2.1 with
      |none=>rw[hs] at h;cases h
      |some st=>
       rw[hs,Option.bind_some] at h
       obtain⟨s2,r3,rfl,h8,h⟩:=kT h
       cases ha:itS r3 with
       |none=>rw[ha] at h;cases h
       |some x=>
        rw[ha] at h
        cases h
        exact .inr (.inr (.inr (.inl ⟨t.2.1,st,r3,x,(hkr t (by simp)).2.1,hs,ha,fun t ht=>hkr t (by simp [ht]),rfl⟩)))
     ·rw[if_neg h7] at h
      have h8:k=8:=by omega
      subst h8
      obtain⟨s,r1,rfl,h6,h⟩:=kT h
      obtain⟨t,r2,rfl,h7,h⟩:=kT h
      cases hs:zlA t.2.1 with
      |none=>rw[hs] at h;cases h
      |some st=>
       rw[hs,Option.bind_some] at h
       obtain⟨s2,r3,rfl,h8,h⟩:=kT h
       obtain⟨w2,r4,rfl,h9,h⟩:=kT h
       cases hm:zhZ w2.2.1 with
       |none=>rw[hm] at h;cases h
       |some mb=>
        rw[hm,Option.bind_some] at h
        obtain⟨s3,r5,rfl,h10,h⟩:=kT h
        cases ha:znf r5 with
        |none=>rw[ha] at h;cases h
        |some f=>
         rw[ha] at h
         cases h
         exact .inr (.inr (.inr (.inr ⟨t.2.1,st,w2.2.1,r5,mb.1,mb.2,f,(hkr t (by simp)).2.1,hs,hm,(hkr w2 (by simp)).2.1,ha,fun t ht=>hkr t (by simp [ht]),rfl⟩)))
theorem zn8(b:List UInt8)(hb:b.length<=2000):(zeQ b).1.2.2.2.1.length<=2001:=by
 unfold zeQ
 split
 ·split
  ·rename_i l ht
   have hdl:(b.drop (run j8 b+1)).length<=2000:=by rw[List.length_drop];omega
   obtain⟨p,e,rfl,he,hk,hpl⟩:=zil hdl 3000 0 l (by omega) ht
   rw[List.dropLast_concat]
   cases hs:ziB (b.take (run j8 b)) p with
   |none=>simp [zhF]
   |some c=>
    rcases zmX hk hs with⟨k,_,_,rfl⟩|⟨m,_,rfl⟩|⟨m,r,f,d,_,_,_,rfl⟩|⟨s,st,r,x,h1,h2,_,_,rfl⟩|⟨s,st,w,r,m,b,f,h1,h2,_,_,_,_,rfl⟩
    ·simp [cA]
    ·simp [cA]
    ·simp [cA]
    ·have:=(zlB h2).2;simp only[cI];omega
    ·have:=(zlB h2).2;simp only[cS];omega
  ·simp [zhF]
 ·simp [zhF]
theorem ztX(t:List UInt8)(k:Int)(m:List UInt8)(st:List (Int×Int))(it mo:Int)(si:Bool)(fl:UInt8)(da:List UInt8)(hst:st.length<=2001):∀ (n i:Nat),i<=st.length->st.length<n+i ->
  qL 3000 n (i:Int) t k m st it mo si fl da t k m st it mo si fl da=some (.inr (t,k,m,st,it,mo,si,fl,da,t,k,m,st,it,mo,si,fl,da))
 |0,i,h,h'=>by omega
 |n+1,i,h,h'=>by
  unfold qL zaq
  by_cases hi:i<st.length
  ·simp only[zir hi,cond_true,z8 hi,Int.toNat_natCast,jR (u:=.pair (.int .u32) (.int .u32)) hi,beq_self_eq_true,Bool.and_true,Bool.not_true,cond_false]
   rw[wri (by omega) (by omega),show((i:Int)+1)=((i+1:Nat):Int) by omega]
   exact ztX t k m st it mo si fl da hst n (i+1) (by omega) (by omega)
  ·simp only[ziq hi,cond_false]
theorem zos(c:El uS2)(h:c.2.2.2.1.length<=2001):zao 3000 c c=some (true,()):=by
 obtain⟨t,k,m,st,it,mo,si,fl,da⟩:=c
 have hL:=ztX t k m st it mo si fl da h 3000 0 (by omega) (by simp only at h;omega)
 rw[show((0:Nat):Int)=(0:Int) from rfl] at hL
 unfold zao
 simp only[bne_self_eq_false,cond_false,hL,Option.bind_some,zl,beq_self_eq_true,cond_true]
theorem ziU(N:Nat)(b:List UInt8):∀ (m i L:Nat) (own:List UInt8),own.length=L->L<=2000->i<=L->L<m+i->∃ own',zJ N m b (L:Int) (i:Int) own=some (b,own')
 |0,i,L,own,h0,h1,h2,h3=>by omega
 |m+1,i,L,own,h0,h1,h2,h3=>by
  unfold zJ jW
  by_cases h:i<L
  ·rw[decide_eq_true (by omega),cond_true,z8 (by omega),cond_true,cond_true,wri (by omega) (by omega),show((i:Nat):Int)+1=((i+1:Nat):Int) by omega]
   exact ziU N b m (i+1) L _ (by rw[List.length_set];exact h0) h1 h (by omega)
  ·rw[decide_eq_false (by omega),cond_false]
   exact⟨own,rfl⟩
theorem znv(b:List UInt8):qj 3000 b=some (true,()):=by
 unfold qj
 by_cases h:(2000:Int)<(((List.length b):Nat):Int)
 ·rw[decide_eq_true h];rfl
 ·rw[decide_eq_false h,cond_false]
  have hb:b.length<=2000:=by omega
  have h39:Nat.blt (0+b.length) qS=true:=by rw[Nat.blt_eq];unfold qS;omega
  rw[h39,cond_true,List.nil_append,zmj b hb,Option.bind_some]
  obtain⟨own',ho⟩:=ziU 3000 b 3000 0 b.length b rfl hb (Nat.zero_le _) (by omega)
  rw[show((0:Nat):Int)=0 from rfl] at ho
  rw[ho,Option.bind_some,zn7 b hb]
  simp only[Option.bind_some,cond_true,zos _ (zn8 b hb)]
end Go.Proofs.Model
