/- The reference's numbers, flags and literals at an offset. -/
import Derived.Test.YtokiphiakdfipaaGreatDoorRx
set_option linter.unusedVariables false
set_option linter.unusedSimpArgs false
set_option linter.unusedSectionVars false
set_option maxRecDepth 100000
namespace Go.Proofs.Model
open Go Go.Gx Go.Mx Go.Sx
theorem zyR(c:UInt8):decide ((48:UInt8)<=c)=decide (48<=c.toNat):=by rw[decide_eq_decide,UInt8.le_iff_toNat_le];rfl
theorem zyS(c:UInt8):decide (c<=(57:UInt8))=decide (c.toNat<=57):=by rw[decide_eq_decide,UInt8.le_iff_toNat_le];rfl
section
variable {e:List UInt8} (he:e.length<=100000)
include he
theorem zkE(N a:Nat)(m:Nat){i:Nat}(hai:a<=i)(hi:i<=e.length):zV N (m+1) e (a:Int) (i:Int)=if(∃ c,e[i]?=some c/\zaM c=true)/\i-a<11 then zV N m e (a:Int) ((i+1:Nat):Int) else some (e,(a:Int),(i:Int)):=by
 conv=>lhs;unfold zV zan
 have w1:IntKind.wrap .i64 ((i:Int)+1)=((i+1:Nat):Int):=by rw[wri (by omega) (by omega)];omega
 have w2:IntKind.wrap .i64 ((i:Int)-(a:Int))=((i-a:Nat):Int):=by rw[wri (by omega) (by omega)];omega
 by_cases h:i<e.length
 ·simp only[zhu h,cond_true,qi h,Int.toNat_natCast,wR (u:=.u8) h,zyR,zyS,w1,w2,List.getElem?_eq_getElem h]
  unfold zaM
  cases c1:decide (48<=e[i].toNat) with
  |false=>rw[if_neg (by rintro⟨⟨c,q1,q2⟩,_⟩;cases q1;rw[c1] at q2;cases q2)];rfl
  |true=>
   cases c2:decide (e[i].toNat<=57) with
   |false=>rw[if_neg (by rintro⟨⟨c,q1,q2⟩,_⟩;cases q1;rw[c1,c2] at q2;cases q2)];rfl
   |true=>
    simp only[cond_true]
    by_cases h11:i-a<11
    ·rw[decide_eq_true (show((i-a:Nat):Int)<11 by omega),if_pos ⟨⟨_,rfl,by rw[c1,c2];rfl⟩,h11⟩];rfl
    ·rw[decide_eq_false (show ¬ ((i-a:Nat):Int)<11 by omega),if_neg (fun h=>h11 h.2)];rfl
 ·rw[zh3 h,if_neg (by rintro⟨⟨c,q1,q2⟩,_⟩;have:=(List.getElem?_eq_some_iff.1 q1).1;omega)];rfl
theorem zkD(N a:Nat):∀ (m i:Nat),a<=i->i<=e.length->e.length<m+i->∃ r:Nat,i<=r/\r<=e.length/\zV N m e (a:Int) (i:Int)=some (e,(a:Int),(r:Int))
 |0,i,h0,h,h2=>by omega
 |m+1,i,h0,h,h2=>by
  rw[zkE he N a m h0 h]
  split
  ·rename_i hc
   obtain⟨⟨c,q1,q2⟩,_⟩:=hc
   have:=(List.getElem?_eq_some_iff.1 q1).1
   obtain⟨r,h3,h4,h5⟩:=zkD N a m (i+1) (by omega) (by omega) (by omega)
   exact⟨r,by omega,h4,h5⟩
  ·exact⟨i,Nat.le_refl _,h,rfl⟩
theorem zpw{i:Nat}(hi:i<=e.length):∃ (n:Int) (j:Int),qu 200000 e (i:Int)=some (n,j,())/\(0<=n/\n<4294967296)/\(j=-1\/∃ k:Nat,j=k/\i<=k/\k<=e.length):=by
 unfold qu
 obtain⟨r,h1,h2,h3⟩:=zkD he 200000 i 200000 i (Nat.le_refl _) hi (by omega)
 rw[h3]
 simp only[Option.bind_some,qU h1 h2,Bool.and_self,cond_true,Int.toNat_natCast]
 rw[zgW 200000 (by omega)]
 unfold zn3
 cases hv:zgU (slice e i r) with
 |none=>exact⟨0,-1,rfl,z32,.inl rfl⟩
 |some v=>have:=zgV hv;exact⟨v,r,rfl,⟨by omega,by omega⟩,.inr ⟨r,rfl,h1,h2⟩⟩
theorem zkA(N a k:Nat)(hk:k<=10)(hak:a+k<e.length)(hd:∀ q:Nat,a<=q->q<a+k->∃ c,e[q]?=some c/\zaM c=true)(hc:∀ c,e[a+k]?=some c->zaM c=false):∀ (m i:Nat),a<=i->i<=a+k->e.length<m+i->zV N m e (a:Int) (i:Int)=some (e,(a:Int),((a+k:Nat):Int))
 |0,i,h0,h,h2=>by omega
 |m+1,i,h0,h,h2=>by
  rw[zkE he N a m h0 (by omega)]
  by_cases e':i=a+k
  ·subst e'
   rw[if_neg]
   rintro⟨⟨c,q1,q2⟩,_⟩
   rw[hc c q1] at q2;cases q2
  ·rw[if_pos ⟨hd i h0 (by omega),by omega⟩]
   exact zkA N a k hk hak hd hc m (i+1) (by omega) (by omega) (by omega)
theorem zsD{i n:Nat}{c:UInt8}{t:List UInt8}(hn:n<4294967296)(h:At e i (dec n++c::t))(hc:zaM c=false):qu 200000 e (i:Int)=some ((n:Int),((i+(dec n).length:Nat):Int),()):=by
 have hl:=h.len
 simp only[List.length_append,List.length_cons] at hl
 have get:∀ k:Nat,e[i+k]?=(dec n++c::t)[k]?:=fun k=>by rw[<- h.dr,List.getElem?_drop]
 unfold qu
 have:=zkA he 200000 i (dec n).length (ju n) (by omega) (fun q q1 q2=>by
  have g:=get (q-i)
  rw[show i+(q-i)=q by omega,List.getElem?_append_left (by omega)] at g
  have hq:q-i<(dec n).length:=by omega
  rw[List.getElem?_eq_getElem hq] at g
  exact⟨_,g,zeS 10 n _ (List.getElem_mem hq)⟩) (fun c' hc'=>by
  have g:=get (dec n).length
  rw[List.getElem?_append_right (Nat.le_refl _),Nat.sub_self,hc'] at g
  cases(show c'=c from Option.some.inj g)
  exact hc) 200000 i (Nat.le_refl _) (by omega) (by omega)
 rw[this]
 simp only[Option.bind_some,qU (show i<=i+(dec n).length by omega) (show i+(dec n).length<=e.length by omega),Bool.and_self,cond_true,Int.toNat_natCast]
 have hs:slice e i (i+(dec n).length)=dec n:=by
  unfold slice;rw[h.dr,Nat.add_sub_cancel_left,List.take_left]
 rw[hs,zgW 200000 (by omega)]
 unfold zn3
 rw[zgm hn]
 rfl
theorem zg5(N a:Nat):∀ (m i:Nat),a<=i->i<=e.length->e.length<m+i->∃ r:Nat,i<=r/\r<=e.length/\qY N m e (a:Int) (i:Int)=some (e,(a:Int),(r:Int))/\(∀ q,i<=q->q<r->e[q]? ≠ some 41)/\(r=e.length\/e[r]?=some 41)
 |0,i,h0,h,h2=>by omega
 |m+1,i,h0,h,h2=>by
  unfold qY zaZ
  by_cases hi:i<e.length
  ·simp only[zhu hi,cond_true,qi hi,Int.toNat_natCast,wR (u:=.u8) hi]
   by_cases hc:e[i]=41
   ·rw[show(e[i] != (41:UInt8))=false by rw[bne_eq_false_iff_eq];exact hc]
    exact⟨i,Nat.le_refl _,h,rfl,fun q h1 h2=>by omega,.inr (by rw[List.getElem?_eq_getElem hi,hc])⟩
   ·rw[show(e[i] != (41:UInt8))=true by rw[bne_iff_ne];exact hc,cond_true,wri (by omega) (by omega),show((i:Int)+1)=((i+1:Nat):Int) by omega]
    obtain⟨r,h3,h4,h5,h6,h7⟩:=zg5 N a m (i+1) (by omega) (by omega) (by omega)
    refine⟨r,by omega,h4,h5,fun q q1 q2=>?_,h7⟩
    by_cases e':q=i
    ·subst e';rw[List.getElem?_eq_getElem hi];exact fun h=>hc (Option.some.inj h)
    ·exact h6 q (by omega) q2
  ·rw[zh3 hi];exact⟨i,Nat.le_refl _,h,rfl,fun q h1 h2=>by omega,.inl (by omega)⟩
theorem zt0{i:Nat}(hi:i<=e.length):∃ (f:Int) (j:Int),jC 200000 e (i:Int)=some (f,j,())/\(j=-1\/∃ k:Nat,j=k/\i<=k/\k<=e.length):=by
 unfold jC
 obtain⟨r,h1,h2,h3,h4,h5⟩:=zg5 he 200000 i 200000 i (Nat.le_refl _) hi (by omega)
 rw[h3]
 simp only[Option.bind_some]
 by_cases hr:r=e.length
 ·rw[jY (show(r:Int)=((e.length:Nat):Int) by omega)]
  exact⟨0,-1,rfl,.inl rfl⟩
 ·rw[qH (show ¬ (r:Int)=((e.length:Nat):Int) by omega),wri (by omega) (by omega),show((r:Int)+1)=((r+1:Nat):Int) by omega,qU (show i<=r+1 by omega) (show r+1<=e.length by omega)]
  simp only[cond_false,Bool.and_self,cond_true,Int.toNat_natCast]
  obtain⟨v,hv⟩:=zpu (slice e i (r+1)) (Nat.le_trans jx he)
  rw[hv]
  simp only[Option.bind_some]
  cases decide (v<0) with
  |true=>exact⟨0,-1,rfl,.inl rfl⟩
  |false=>exact⟨v,_,rfl,.inr ⟨r+1,rfl,by omega,by omega⟩⟩
theorem zvv{i:Nat}{fl:UInt8}{t:List UInt8}(hf:fl<=31)(h:At e i (flB fl++41::t)):jC 200000 e (i:Int)=some ((fl.toNat:Int),((i+(flB fl).length+1:Nat):Int),()):=by
 have hl:=h.len
 simp only[List.length_append,List.length_cons] at hl
 have get:∀ k:Nat,e[i+k]?=(flB fl++41::t)[k]?:=fun k=>by rw[<- h.dr,List.getElem?_drop]
 obtain⟨_,_,_,g4,g5,_⟩:=za3 fl hf
 unfold jC
 obtain⟨r,h1,h2,h3,h4,h5⟩:=zg5 he 200000 i 200000 i (Nat.le_refl _) h.le (by omega)
 have g41:e[i+(flB fl).length]?=some 41:=by
  have:=get (flB fl).length
  rw[List.getElem?_append_right (Nat.le_refl _),Nat.sub_self] at this
  exact this
 have hr:r=i+(flB fl).length:=by
  rcases Nat.lt_trichotomy r (i+(flB fl).length) with hlt|he' | hgt
  ·exfalso
   have h5:e[r]?=some 41:=h5.resolve_left (by omega)
   have:=get (r-i)
   rw[show i+(r-i)=r by omega,h5,List.getElem?_append_left (by omega)] at this
   exact g5 41 (List.mem_of_getElem? this.symm) rfl
  ·exact he'
  ·exact absurd g41 (h4 _ (by omega) hgt)
 subst hr
 rw[h3]
 simp only[Option.bind_some]
 rw[qH (show ¬ ((i+(flB fl).length:Nat):Int)=((e.length:Nat):Int) by omega),wri (by omega) (by omega),show(((i+(flB fl).length:Nat):Int)+1)=((i+(flB fl).length+1:Nat):Int) by omega,qU (show i<=i+(flB fl).length+1 by omega) (show i+(flB fl).length+1<=e.length by omega)]
 simp only[cond_false,Bool.and_self,cond_true,Int.toNat_natCast]
 have hs:slice e i (i+(flB fl).length+1)=flB fl++[41]:=by
  unfold slice
  rw[h.dr,show i+(flB fl).length+1-i=(flB fl++[41]).length by simp;omega,show flB fl++41::t=(flB fl++[41])++t by simp,List.take_left]
 rw[hs,g4]
 simp only[Option.bind_some]
 rw[decide_eq_false (show ¬ ((fl.toNat:Nat):Int)<0 by omega)]
 rfl
theorem zt2{j:Nat}{body t:List UInt8}(hl:body.length<=65536)(h:At e j (ze0 body++t)):zO 200000 e (j:Int)=some (body,((j+(ze0 body).length:Nat):Int),true,()):=by
 have h':At e j (123::(dec body.length++[125,13,10]++body++t)):=by unfold ze0 at h;simpa using h
 obtain⟨hi,hc⟩:=h'.get
 rw[zmF 200000 e he (by omega) (by omega) j hi hc]
 exact zu8 hl h
end
end Go.Proofs.Model
