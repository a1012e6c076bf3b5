/- The reference's reading at an offset. -/
import Derived.Test.YtokiphiakdfipaaGreatDoorRw
set_option linter.unusedVariables false
set_option linter.unusedSimpArgs false
set_option linter.unusedSectionVars false
set_option maxRecDepth 100000
namespace Go.Proofs.Model
open Go Go.Gx Go.Mx Go.Sx
section
variable {e:List UInt8} (he:e.length<=100000)
include he
theorem zb8(N:Nat){i:Nat}(hi:i<=e.length)(s:List UInt8)(hs:s.length<=100000):zq N e (i:Int) s=some (pre s (e.drop i),()):=by
 unfold zq
 rw[decide_eq_true (show(i:Int)<=((e.length:Nat):Int) by omega),wri (show -9223372036854775808<=((e.length:Nat):Int)-(i:Int) by omega) (by omega),zi7]
 by_cases h:s.length<=e.length-i
 ·rw[decide_eq_true (show((s.length:Nat):Int)<=((e.length:Nat):Int)-(i:Int) by omega),wri (show -9223372036854775808<=(i:Int)+((s.length:Nat):Int) by omega) (by omega),show(i:Int)+((s.length:Nat):Int)=((i+s.length:Nat):Int) by omega,qU (show i<=i+s.length by omega) (by omega)]
  rw[decide_eq_true (show s.length<=(e.drop i).length by rw[List.length_drop];exact h)]
  simp only[cond_true,Bool.and_self,Int.toNat_natCast,Bool.true_and]
  unfold slice
  rw[Nat.add_sub_cancel_left]
 ·rw[decide_eq_false (show ¬ ((s.length:Nat):Int)<=((e.length:Nat):Int)-(i:Int) by omega)]
  rw[decide_eq_false (show ¬ s.length<=(e.drop i).length by rw[List.length_drop];exact h)]
  rfl
theorem zdI(N:Nat){i:Nat}{r:List UInt8}(h:At e i r)(s:List UInt8)(hs:s.length<=100000):zq N e (i:Int) s=some (pre s r,()):=by
 rw[zb8 he N h.le s hs,h.dr]
theorem zhq(N a:Nat):∀ (m i:Nat),i<=e.length->e.length<m+i->∃ r:Nat,i<=r/\r<=e.length/\js N m e (a:Int) (i:Int)=some (e,(a:Int),(r:Int))/\(∀ q,i<=q->q<r->e[q]? ≠ some 32)/\(r=e.length\/e[r]?=some 32)
 |0,i,h,h2=>by omega
 |m+1,i,h,h2=>by
  unfold js zbv
  by_cases hi:i<e.length
  ·simp only[zhu hi,cond_true,qi hi,Int.toNat_natCast,wR (u:=.u8) hi]
   by_cases hc:e[i]=32
   ·rw[show(e[i] != (32:UInt8))=false by rw[bne_eq_false_iff_eq];exact hc]
    exact⟨i,Nat.le_refl _,h,rfl,fun q h1 h2=>by omega,.inr (by rw[List.getElem?_eq_getElem hi,hc])⟩
   ·rw[show(e[i] != (32:UInt8))=true by rw[bne_iff_ne];exact hc,cond_true,wri (by omega) (by omega),show((i:Int)+1)=((i+1:Nat):Int) by omega]
    obtain⟨r,h3,h4,h5,h6,h7⟩:=zhq N a m (i+1) (by omega) (by omega)
    refine⟨r,by omega,h4,h5,fun q q1 q2=>?_,h7⟩
    by_cases e':q=i
    ·subst e';rw[List.getElem?_eq_getElem hi];exact fun h=>hc (Option.some.inj h)
    ·exact h6 q (by omega) q2
  ·rw[zh3 hi];exact⟨i,Nat.le_refl _,h,rfl,fun q h1 h2=>by omega,.inl (by omega)⟩
theorem zmb{i:Nat}(hi:i<=e.length):∃ (x:List UInt8) (n:Nat),jb 200000 e (i:Int)=some (x,(n:Int),())/\x.length<=e.length/\n<=e.length:=by
 obtain⟨r,h1,h2,h3,h4,h5⟩:=zhq he 200000 i 200000 i hi (by omega)
 unfold jb
 rw[h3]
 simp only[Option.bind_some]
 by_cases hr:r=e.length
 ·rw[jY (show(r:Int)=((e.length:Nat):Int) by omega),qU h1 h2]
  exact⟨_,r,rfl,jx,h2⟩
 ·rw[qH (show ¬ (r:Int)=((e.length:Nat):Int) by omega),qU h1 h2,wri (by omega) (by omega),show((r:Int)+1)=((r+1:Nat):Int) by omega]
  exact⟨_,r+1,rfl,jx,by omega⟩
theorem zk0{i:Nat}{p t:List UInt8}(h:At e i (p++32::t))(hp:∀ c ∈ p,c≠32):jb 200000 e (i:Int)=some (p,((i+p.length+1:Nat):Int),()):=by
 have hl:=h.len
 simp only[List.length_append,List.length_cons] at hl
 obtain⟨r,h1,h2,h3,h4,h5⟩:=zhq he 200000 i 200000 i h.le (by omega)
 have get:∀ k:Nat,(e.drop i)[k]?=(p++32::t)[k]?:=fun k=>by rw[h.dr]
 have g32:e[i+p.length]?=some 32:=by
  have:=get p.length
  rw[List.getElem?_drop,List.getElem?_append_right (Nat.le_refl _),Nat.sub_self] at this
  exact this
 have hr:r=i+p.length:=by
  rcases Nat.lt_trichotomy r (i+p.length) with hlt|he' | hgt
  ·exfalso
   have h5:e[r]?=some 32:=h5.resolve_left (by omega)
   have:=get (r-i)
   rw[List.getElem?_drop,show i+(r-i)=r by omega,h5,List.getElem?_append_left (by omega)] at this
   exact hp 32 (List.mem_of_getElem? this.symm) rfl
  ·exact he'
  ·exact absurd g32 (h4 _ (by omega) hgt)
 subst hr
 unfold jb
 rw[h3]
 simp only[Option.bind_some]
 rw[qH (show ¬ ((i+p.length:Nat):Int)=((e.length:Nat):Int) by omega),qU h1 h2,wri (by omega) (by omega),show(((i+p.length:Nat):Int)+1)=((i+p.length+1:Nat):Int) by omega]
 simp only[cond_false,Bool.and_self,cond_true,Int.toNat_natCast]
 have hs:slice e i (i+p.length)=p:=by
  unfold slice;rw[h.dr,Nat.add_sub_cancel_left,List.take_left]
 rw[hs]
theorem zgO(N a:Nat):∀ (m i:Nat),a<=i->i<=e.length->e.length<m+i->(∃ r:Nat,i<=r/\r+1<e.length/\qe N m e (a:Int) (i:Int)=some (Sum.inl (slice e a r,((r+2:Nat):Int)))/\e[r]?=some 13/\e[r+1]?=some 10/\∀ q,i<=q->q<r->¬ (e[q]?=some 13/\e[q+1]?=some 10)) \/
  (qe N m e (a:Int) (i:Int)=some (Sum.inr ())/\∀ q,i<=q->¬ (e[q]?=some 13/\e[q+1]?=some 10))
 |0,i,h0,h,h2=>by omega
 |m+1,i,h0,h,h2=>by
  unfold qe zbt
  have w1:IntKind.wrap .i64 ((i:Int)+1)=((i+1:Nat):Int):=by rw[wri (by omega) (by omega)];omega
  have w2:IntKind.wrap .i64 ((i:Int)+2)=((i+2:Nat):Int):=by rw[wri (by omega) (by omega)];omega
  by_cases hi:i+1<e.length
  ·have hi0:i<e.length:=by omega
   have step:¬ (e[i]?=some 13/\e[i+1]?=some 10)->(∃ r:Nat,i<=r/\r+1<e.length/\qe N m e (a:Int) ((i+1:Nat):Int)=some (Sum.inl (slice e a r,((r+2:Nat):Int)))/\e[r]?=some 13/\e[r+1]?=some 10/\∀ q,i<=q->q<r->¬ (e[q]?=some 13/\e[q+1]?=some 10)) \/
     (qe N m e (a:Int) ((i+1:Nat):Int)=some (Sum.inr ())/\∀ q,i<=q->¬ (e[q]?=some 13/\e[q+1]?=some 10)):=fun hne=>by
    rcases zgO N a m (i+1) (by omega) (by omega) (by omega) with⟨r,h3,h4,h5,h6,h7,h8⟩|⟨h5,h8⟩
    ·refine .inl ⟨r,by omega,h4,h5,h6,h7,fun q q1 q2=>?_⟩
     by_cases e':q=i
     ·subst e';exact hne
     ·exact h8 q (by omega) q2
    ·refine .inr ⟨h5,fun q q1=>?_⟩
     by_cases e':q=i
     ·subst e';exact hne
     ·exact h8 q (by omega)
   simp only[w1,w2,zhu hi,cond_true,qi hi0,qi hi,Int.toNat_natCast,wR (u:=.u8) hi0,wR (u:=.u8) hi,qU h0 h,Bool.and_self]
   by_cases h13:e[i]=13
   ·rw[show(e[i]==(13:UInt8))=true by rw[beq_iff_eq];exact h13,cond_true]
    by_cases h10:e[i+1]=10
    ·rw[show(e[i+1]==(10:UInt8))=true by rw[beq_iff_eq];exact h10,cond_true]
     exact .inl ⟨i,Nat.le_refl _,hi,rfl,by rw[List.getElem?_eq_getElem hi0,h13],by rw[List.getElem?_eq_getElem hi,h10],fun q h1 h2=>by omega⟩
    ·rw[show(e[i+1]==(10:UInt8))=false by rw[beq_eq_false_iff_ne];exact h10,cond_false]
     exact step fun h=>h10 (by rw[List.getElem?_eq_getElem hi] at h;exact Option.some.inj h.2)
   ·rw[show(e[i]==(13:UInt8))=false by rw[beq_eq_false_iff_ne];exact h13,cond_false]
    exact step fun h=>h13 (by rw[List.getElem?_eq_getElem hi0] at h;exact Option.some.inj h.1)
  ·rw[w1,decide_eq_false (by omega)]
   exact .inr ⟨rfl,fun q h1 ⟨h2,h3⟩=>by have:=(List.getElem?_eq_some_iff.1 h3).1;omega⟩
theorem zdy{i:Nat}(hi:i<=e.length):∃ (x:List UInt8) (n:Int),qz 200000 e (i:Int)=some (x,n,())/\x.length<=e.length/\(x=[]\/∃ r,x=slice e i r/\e[i]?=x[0]?):=by
 unfold qz
 rcases zgO he 200000 i 200000 i (Nat.le_refl _) hi (by omega) with⟨r,h1,h2,h3,h4,h5,h6⟩|⟨h3,h6⟩
 ·rw[h3]
  refine⟨_,_,rfl,jx,?_⟩
  by_cases hr:r=i
  ·left;subst hr;simp [slice]
  ·right
   refine⟨r,rfl,?_⟩
   unfold slice
   rw[List.getElem?_take,if_pos (by omega),List.getElem?_drop,Nat.add_zero]
 ·rw[h3];exact⟨[],-1,rfl,Nat.zero_le _,.inl rfl⟩
theorem zfB{i:Nat}{p t:List UInt8}(h:At e i (p++13::10::t))(hp:∀ c ∈ p,c≠13):qz 200000 e (i:Int)=some (p,((i+p.length+2:Nat):Int),()):=by
 have hl:=h.len
 simp only[List.length_append,List.length_cons] at hl
 have get:∀ k:Nat,(e.drop i)[k]?=(p++13::10::t)[k]?:=fun k=>by rw[h.dr]
 have g13:e[i+p.length]?=some 13:=by
  have:=get p.length
  rw[List.getElem?_drop,List.getElem?_append_right (Nat.le_refl _),Nat.sub_self] at this
  exact this
 have g10:e[i+p.length+1]?=some 10:=by
  have:=get (p.length+1)
  rw[List.getElem?_drop,List.getElem?_append_right (by omega),Nat.add_sub_cancel_left] at this
  exact this
 unfold qz
 rcases zgO he 200000 i 200000 i (Nat.le_refl _) h.le (by omega) with⟨r,h1,h2,h3,h4,h5,h6⟩|⟨h3,h6⟩
 ·have hr:r=i+p.length:=by
   rcases Nat.lt_trichotomy r (i+p.length) with hlt|he' | hgt
   ·exfalso
    have:=get (r-i)
    rw[List.getElem?_drop,show i+(r-i)=r by omega,h4,List.getElem?_append_left (by omega)] at this
    exact hp 13 (List.mem_of_getElem? this.symm) rfl
   ·exact he'
   ·exact absurd ⟨g13,g10⟩ (h6 _ (by omega) hgt)
  subst hr
  rw[h3]
  have hs:slice e i (i+p.length)=p:=by
   unfold slice;rw[h.dr,Nat.add_sub_cancel_left,List.take_left]
  rw[hs];rfl
 ·exact absurd ⟨g13,g10⟩ (h6 _ (by omega))
end
end Go.Proofs.Model
