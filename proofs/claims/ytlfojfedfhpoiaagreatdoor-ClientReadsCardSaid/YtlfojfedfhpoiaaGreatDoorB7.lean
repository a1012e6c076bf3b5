/- The machines and the plain laws, part 7. -/
import Derived.Test.YtlfojfedfhpoiaaGreatDoorB6
open Option renaming bind_some->ya,map_some->ym,map_none->yn,bind->yr,bind_none->yy
open List renaming length->yb,cons_append->ye,mem_cons_of_mem->yg,nil_append->yh,mem_cons_self->yi,length_cons->yk,drop_eq_nil_of_le->yq,length_drop->yv,drop_zero->yw,cons->yx,mem_append_left->yz,mem_cons->yA,length_append->yB,length_map->yC,length_take->yD,getElem_mem->yE,take_succ_eq_append_getElem->yF,append_assoc->yH,mem_append_right->yI,dropLast_concat->yJ,mem_singleton->yL,all_eq_true->yN,append_nil->yO,drop_eq_getElem_cons->yP,getElem?_eq_some_iff->yQ,all_cons->yR,take_of_length_le->yS,drop_of_length_le->yT,getElem_drop->yU,append_inj'->yV,map_append->yW,mem_append->yY,take_zero->yZ,mem_range->vd
open Bool renaming not_false->yc,not_true->yd,and_true->yf,false_eq_true->yu,true_and->yK,eq_iff_iff->yX
open Int renaming toNat_natCast->yj,toNat->yG,tmod->yM
open Go.IntKind renaming wrap->yo
open UInt8 renaming ofNat->yp
set_option linter.unusedVariables false
set_option linter.unusedSimpArgs false
set_option maxRecDepth 100000
namespace Go.Proofs.Model
open Go Go.Gx Go.Mx Go.Sx
def up(c:UInt8):UInt8:=cond (decide ((97:UInt8)<=c)) (cond (decide (c<=(122:UInt8))) (c-32) c) c
theorem zwI(c:UInt8)(h1:decide ((97:UInt8)<=c)=true)(h2:decide (c<=(122:UInt8))=true):c &&& ~~~(32:UInt8)=c-32:=by
 have key:∀ n:Fin 256,decide ((97:UInt8)<=yp n.val)=true->decide (yp n.val<=(122:UInt8))=true->yp n.val &&& ~~~(32:UInt8)=yp n.val-32:=by decide +kernel
 have:=key ⟨c.toNat,c.toNat_lt⟩
 simp only[UInt8.ofNat_toNat] at this
 exact this h1 h2
theorem zwd{s:List UInt8}{i:Nat}(h:i<s.length):((s.take i).map up++s.drop i).set i (up s[i])=(s.take (i+1)).map up++s.drop (i+1):=by
 have hl:((s.take i).map up).length=i:=by rw[yC,yD];omega
 rw[List.set_append,if_neg (by omega),hl,Nat.sub_self,drop_one h,List.set_cons_zero,yF h,yW,yH]
 rfl
theorem zvA{s:List UInt8}{i:Nat}(h:i<s.length):nth .u8 ((s.take i).map up++s.drop i) i=s[i]:=by
 have hl:((s.take i).map up).length=i:=by rw[yC,yD];omega
 have h2:i<((s.take i).map up++s.drop i).length:=by rw[yB,hl,yv];omega
 rw[show nth .u8 ((s.take i).map up++s.drop i) i=((s.take i).map up++s.drop i)[i] from jr h2,List.getElem_append_right (by omega)]
 simp only[hl,Nat.sub_self,yU,Nat.add_zero]
theorem ziE(N:Nat)(s:List UInt8)(hs:s.length<=100000):∀ (m i:Nat),i<=s.length->s.length<m+i ->
  jt N m (s.length:Int) (i:Int) ((s.take i).map up++s.drop i)=some (s.map up)
 |0,i,h,h'=>by omega
 |m+1,i,h,h'=>by
  unfold jt zbx
  by_cases hi:i<s.length
  ·have hlen:i<((s.take i).map up++s.drop i).length:=by rw[yB,yC,yD,yv];omega
   have hn:nth .u8 ((s.take i).map up++s.drop i) (yG (i:Int))=s[i]:=by rw[yj];exact zvA hi
   simp only[zhN hi,cond_true,zZ hlen]
   generalize nth .u8 ((s.take i).map up++s.drop i) (yG (i:Int))=c at hn |-
   subst hn
   rw[yj,wri (by omega) (by omega),show((i:Int)+1)=((i+1:Nat):Int) by omega]
   have ih:=ziE N s hs m (i+1) (by omega) (by omega)
   rw[<- zwd hi] at ih
   cases h1:decide ((97:UInt8)<=s[i]) with
   |true=>
    cases h2:decide (s[i]<=(122:UInt8)) with
    |true=>
     simp only[cond_true]
     rw[zwI _ h1 h2]
     simpa only[up,h1,h2,cond_true] using ih
    |false=>
     simp only[cond_true,cond_false]
     simpa only[up,h1,h2,cond_true,cond_false] using ih
   |false=>
    simp only[cond_false]
    simpa only[up,h1,cond_false] using ih
  ·rw[zhM hi,yS (by omega),yT (by omega),yO];rfl
theorem zdq(s:List UInt8)(hs:s.length<=20000):jB 200000 s=some (s.map up,()):=by
 unfold jB
 rw[show Nat.blt s.length qc=true by rw[Nat.blt_eq];unfold qc;omega,cond_true]
 have:=ziE 200000 s (by omega) 200000 0 (by omega) (by omega)
 rw[yZ,yw,List.map_nil,yh,show((0:Nat):Int)=0 from rfl] at this
 rw[this];rfl
theorem zhj(N:Nat)(s:List UInt8)(hs:s.length<=100000):∀ (m i:Nat),i<=s.length->s.length<m+i ->
  jd N m s ((s.take i).map up) (i:Int)=some (s.map up)
 |0,i,h,h'=>by omega
 |m+1,i,h,h'=>by
  unfold jd za1
  by_cases hi:i<s.length
  ·have hn:nth .u8 s (yG (i:Int))=s[i]:=by rw[yj];exact jr hi
   have hcap:∀ c:UInt8,decide (((s.take i).map up).length+([c]:List UInt8).length<4611686018427387904)=true:=fun c=>by
    rw[decide_eq_true_eq,yC,yD];simp;omega
   simp only[zhN hi,cond_true,zZ hi,hcap]
   generalize nth .u8 s (yG (i:Int))=c at hn |-
   subst hn
   rw[wri (by omega) (by omega),show((i:Int)+1)=((i+1:Nat):Int) by omega]
   have ih:=zhj N s hs m (i+1) (by omega) (by omega)
   rw[yF hi,yW,show[s[i]].map up=[up s[i]] from rfl] at ih
   cases h1:decide ((97:UInt8)<=s[i]) with
   |true=>
    cases h2:decide (s[i]<=(122:UInt8)) with
    |true=>
     simp only[cond_true]
     simpa only[up,h1,h2,cond_true] using ih
    |false=>
     simp only[cond_true,cond_false]
     simpa only[up,h1,h2,cond_true,cond_false] using ih
   |false=>
    simp only[cond_false]
    simpa only[up,h1,cond_false] using ih
  ·rw[zhM hi,yS (by omega)];rfl
theorem zcl(s:List UInt8)(hs:s.length<=20000):zm 200000 s=some (s.map up,()):=by
 unfold zm
 have:=zhj 200000 s (by omega) 200000 0 (by omega) (by omega)
 rw[yZ,List.map_nil,show((0:Nat):Int)=0 from rfl] at this
 rw[this];rfl
def zxp:List (List UInt8):=[([78,79,79,80]:List UInt8),([76,79,71,79,85,84]:List UInt8),([67,76,79,83,69]:List UInt8),([69,88,80,85,78,71,69]:List UInt8),([83,69,76,69,67,84]:List UInt8),([65,80,80,69,78,68]:List UInt8),([70,69,84,67,72]:List UInt8),([83,84,79,82,69]:List UInt8)]
theorem zrj(u:List UInt8):zl 200000 200000 zxp u 8 0=(cond (u==([78,79,79,80]:List UInt8)) (some (.inl 0)) (cond (u==([76,79,71,79,85,84]:List UInt8)) (some (.inl 1)) (cond (u==([67,76,79,83,69]:List UInt8)) (some (.inl 2)) (cond (u==([69,88,80,85,78,71,69]:List UInt8)) (some (.inl 3)) (cond (u==([83,69,76,69,67,84]:List UInt8)) (some (.inl 4)) (cond (u==([65,80,80,69,78,68]:List UInt8)) (some (.inl 5)) (cond (u==([70,69,84,67,72]:List UInt8)) (some (.inl 6)) (cond (u==([83,84,79,82,69]:List UInt8)) (some (.inl 7)) (some (.inr ())))))))))):=by kernel_rfl
def items:List (List UInt8):=[([70,76,65,71,83]:List UInt8),([85,73,68]:List UInt8),([82,70,67,56,50,50,46,83,73,90,69]:List UInt8),([66,79,68,89,46,80,69,69,75,91,93]:List UInt8),([66,79,68,89,91,93]:List UInt8)]
theorem zri(u:List UInt8):zl 200000 200000 items u 5 0=(cond (u==([70,76,65,71,83]:List UInt8)) (some (.inl 0)) (cond (u==([85,73,68]:List UInt8)) (some (.inl 1)) (cond (u==([82,70,67,56,50,50,46,83,73,90,69]:List UInt8)) (some (.inl 2)) (cond (u==([66,79,68,89,46,80,69,69,75,91,93]:List UInt8)) (some (.inl 3)) (cond (u==([66,79,68,89,91,93]:List UInt8)) (some (.inl 4)) (some (.inr ()))))))):=by kernel_rfl
theorem znn(a b:List UInt8):(a==b)=(b==a):=by rw[yX,beq_iff_eq,beq_iff_eq];exact eq_comm
theorem zvR(s u:List UInt8)(hU:zm 200000 s=some (u,())):zb 200000 200000 s 1=(cond (u==([78,79,79,80]:List UInt8)) (some (.inl 1)) (cond (u==([76,79,71,79,85,84]:List UInt8)) (some (.inl 2)) (cond (u==([67,76,79,83,69]:List UInt8)) (some (.inl 3)) (cond (u==([69,88,80,85,78,71,69]:List UInt8)) (some (.inl 4)) (cond (u==([83,69,76,69,67,84]:List UInt8)) (some (.inl 5)) (cond (u==([65,80,80,69,78,68]:List UInt8)) (some (.inl 6)) (cond (u==([70,69,84,67,72]:List UInt8)) (some (.inl 7)) (cond (u==([83,84,79,82,69]:List UInt8)) (some (.inl 8)) (some (.inr ())))))))))):=by
 have s0:zb 200000 200000 s 1=cond (u==([78,79,79,80]:List UInt8)) (some (.inl 1)) (zb 200000 199999 s 2):=by
  rw[show zb 200000 200000 s 1=(yr (zm 200000 s) fun y=>cond (([78,79,79,80]:List UInt8)==y.1) (some (.inl 1)) (zb 200000 199999 s 2)) from by kernel_rfl,hU,znn u];rfl
 have s1:zb 200000 199999 s 2=cond (u==([76,79,71,79,85,84]:List UInt8)) (some (.inl 2)) (zb 200000 199998 s 3):=by
  rw[show zb 200000 199999 s 2=(yr (zm 200000 s) fun y=>cond (([76,79,71,79,85,84]:List UInt8)==y.1) (some (.inl 2)) (zb 200000 199998 s 3)) from by kernel_rfl,hU,znn u];rfl
 have s2:zb 200000 199998 s 3=cond (u==([67,76,79,83,69]:List UInt8)) (some (.inl 3)) (zb 200000 199997 s 4):=by
  rw[show zb 200000 199998 s 3=(yr (zm 200000 s) fun y=>cond (([67,76,79,83,69]:List UInt8)==y.1) (some (.inl 3)) (zb 200000 199997 s 4)) from by kernel_rfl,hU,znn u];rfl
 have s3:zb 200000 199997 s 4=cond (u==([69,88,80,85,78,71,69]:List UInt8)) (some (.inl 4)) (zb 200000 199996 s 5):=by
  rw[show zb 200000 199997 s 4=(yr (zm 200000 s) fun y=>cond (([69,88,80,85,78,71,69]:List UInt8)==y.1) (some (.inl 4)) (zb 200000 199996 s 5)) from by kernel_rfl,hU,znn u];rfl
 have s4:zb 200000 199996 s 5=cond (u==([83,69,76,69,67,84]:List UInt8)) (some (.inl 5)) (zb 200000 199995 s 6):=by
  rw[show zb 200000 199996 s 5=(yr (zm 200000 s) fun y=>cond (([83,69,76,69,67,84]:List UInt8)==y.1) (some (.inl 5)) (zb 200000 199995 s 6)) from by kernel_rfl,hU,znn u];rfl
 have s5:zb 200000 199995 s 6=cond (u==([65,80,80,69,78,68]:List UInt8)) (some (.inl 6)) (zb 200000 199994 s 7):=by
  rw[show zb 200000 199995 s 6=(yr (zm 200000 s) fun y=>cond (([65,80,80,69,78,68]:List UInt8)==y.1) (some (.inl 6)) (zb 200000 199994 s 7)) from by kernel_rfl,hU,znn u];rfl
 have s6:zb 200000 199994 s 7=cond (u==([70,69,84,67,72]:List UInt8)) (some (.inl 7)) (zb 200000 199993 s 8):=by
  rw[show zb 200000 199994 s 7=(yr (zm 200000 s) fun y=>cond (([70,69,84,67,72]:List UInt8)==y.1) (some (.inl 7)) (zb 200000 199993 s 8)) from by kernel_rfl,hU,znn u];rfl
 have s7:zb 200000 199993 s 8=cond (u==([83,84,79,82,69]:List UInt8)) (some (.inl 8)) (zb 200000 199992 s 9):=by
  rw[show zb 200000 199993 s 8=(yr (zm 200000 s) fun y=>cond (([83,84,79,82,69]:List UInt8)==y.1) (some (.inl 8)) (zb 200000 199992 s 9)) from by kernel_rfl,hU,znn u];rfl
 rw[s0,s1,s2,s3,s4,s5,s6,s7]
 rw[show zb 200000 199992 s 9=some (.inr ()) from by kernel_rfl]
theorem zvQ(s u:List UInt8)(hU:zm 200000 s=some (u,())):zj 200000 200000 s 1=(cond (u==([70,76,65,71,83]:List UInt8)) (some (.inl 1)) (cond (u==([85,73,68]:List UInt8)) (some (.inl 2)) (cond (u==([82,70,67,56,50,50,46,83,73,90,69]:List UInt8)) (some (.inl 4)) (cond (u==([66,79,68,89,46,80,69,69,75,91,93]:List UInt8)) (some (.inl 8)) (cond (u==([66,79,68,89,91,93]:List UInt8)) (some (.inl 16)) (some (.inr ()))))))):=by
 have s0:zj 200000 200000 s 1=cond (u==([70,76,65,71,83]:List UInt8)) (some (.inl 1)) (zj 200000 199999 s 2):=by
  rw[show zj 200000 200000 s 1=(yr (zm 200000 s) fun y=>cond (([70,76,65,71,83]:List UInt8)==y.1) (some (.inl 1)) (zj 200000 199999 s 2)) from by kernel_rfl,hU,znn u];rfl
 have s1:zj 200000 199999 s 2=cond (u==([85,73,68]:List UInt8)) (some (.inl 2)) (zj 200000 199998 s 4):=by
  rw[show zj 200000 199999 s 2=(yr (zm 200000 s) fun y=>cond (([85,73,68]:List UInt8)==y.1) (some (.inl 2)) (zj 200000 199998 s 4)) from by kernel_rfl,hU,znn u];rfl
 have s2:zj 200000 199998 s 4=cond (u==([82,70,67,56,50,50,46,83,73,90,69]:List UInt8)) (some (.inl 4)) (zj 200000 199997 s 8):=by
  rw[show zj 200000 199998 s 4=(yr (zm 200000 s) fun y=>cond (([82,70,67,56,50,50,46,83,73,90,69]:List UInt8)==y.1) (some (.inl 4)) (zj 200000 199997 s 8)) from by kernel_rfl,hU,znn u];rfl
 have s3:zj 200000 199997 s 8=cond (u==([66,79,68,89,46,80,69,69,75,91,93]:List UInt8)) (some (.inl 8)) (zj 200000 199996 s 16):=by
  rw[show zj 200000 199997 s 8=(yr (zm 200000 s) fun y=>cond (([66,79,68,89,46,80,69,69,75,91,93]:List UInt8)==y.1) (some (.inl 8)) (zj 200000 199996 s 16)) from by kernel_rfl,hU,znn u];rfl
 have s4:zj 200000 199996 s 16=cond (u==([66,79,68,89,91,93]:List UInt8)) (some (.inl 16)) (zj 200000 199995 s 32):=by
  rw[show zj 200000 199996 s 16=(yr (zm 200000 s) fun y=>cond (([66,79,68,89,91,93]:List UInt8)==y.1) (some (.inl 16)) (zj 200000 199995 s 32)) from by kernel_rfl,hU,znn u];rfl
 rw[s0,s1,s2,s3,s4]
 rw[show zj 200000 199995 s 32=some (.inr ()) from by kernel_rfl]
theorem zg1(s:List UInt8)(hs:s.length<=20000):∃ n:Int,wC 200000 s=some (n,decide (0<n),())/\kg 200000 s=some (n,())/\0<=n/\n<=8:=by
 unfold wC kg
 rw[zdq s hs]
 simp only[ya]
 unfold zp
 rw[show zl 200000 200000 [([78,79,79,80]:List UInt8),([76,79,71,79,85,84]:List UInt8),([67,76,79,83,69]:List UInt8),([69,88,80,85,78,71,69]:List UInt8),([83,69,76,69,67,84]:List UInt8),([65,80,80,69,78,68]:List UInt8),([70,69,84,67,72]:List UInt8),([83,84,79,82,69]:List UInt8)] (s.map up) (((yb ([([78,79,79,80]:List UInt8),([76,79,71,79,85,84]:List UInt8),([67,76,79,83,69]:List UInt8),([69,88,80,85,78,71,69]:List UInt8),([83,69,76,69,67,84]:List UInt8),([65,80,80,69,78,68]:List UInt8),([70,69,84,67,72]:List UInt8),([83,84,79,82,69]:List UInt8)]:List (List UInt8))):Nat):Int) 0=_ from zrj (s.map up),zvR s _ (zcl s hs)]
 generalize(s.map up==([78,79,79,80]:List UInt8))=b0
 generalize(s.map up==([76,79,71,79,85,84]:List UInt8))=b1
 generalize(s.map up==([67,76,79,83,69]:List UInt8))=b2
 generalize(s.map up==([69,88,80,85,78,71,69]:List UInt8))=b3
 generalize(s.map up==([83,69,76,69,67,84]:List UInt8))=b4
 generalize(s.map up==([65,80,80,69,78,68]:List UInt8))=b5
 generalize(s.map up==([70,69,84,67,72]:List UInt8))=b6
 generalize(s.map up==([83,84,79,82,69]:List UInt8))=b7
 cases b0 with
 |true=>exact⟨1,rfl,rfl,by omega⟩
 |false=>
  cases b1 with
  |true=>exact⟨2,rfl,rfl,by omega⟩
  |false=>
  cases b2 with
  |true=>exact⟨3,rfl,rfl,by omega⟩
  |false=>
   cases b3 with
   |true=>exact⟨4,rfl,rfl,by omega⟩
   |false=>
   cases b4 with
   |true=>exact⟨5,rfl,rfl,by omega⟩
   |false=>
    cases b5 with
    |true=>exact⟨6,rfl,rfl,by omega⟩
    |false=>
    cases b6 with
    |true=>exact⟨7,rfl,rfl,by omega⟩
    |false=>
     cases b7 with
     |true=>exact⟨8,rfl,rfl,by omega⟩
     |false=>
     exact⟨0,rfl,rfl,by omega⟩
theorem zg0(s:List UInt8)(hs:s.length<=20000):∃ n:Int,jP 200000 s=some (n,decide (0<n),())/\kf 200000 s=some (n,())/\0<=n/\n<=16:=by
 unfold jP kf
 rw[zdq s hs]
 simp only[ya]
 unfold zp
 rw[show zl 200000 200000 [([70,76,65,71,83]:List UInt8),([85,73,68]:List UInt8),([82,70,67,56,50,50,46,83,73,90,69]:List UInt8),([66,79,68,89,46,80,69,69,75,91,93]:List UInt8),([66,79,68,89,91,93]:List UInt8)] (s.map up) (((yb ([([70,76,65,71,83]:List UInt8),([85,73,68]:List UInt8),([82,70,67,56,50,50,46,83,73,90,69]:List UInt8),([66,79,68,89,46,80,69,69,75,91,93]:List UInt8),([66,79,68,89,91,93]:List UInt8)]:List (List UInt8))):Nat):Int) 0=_ from zri (s.map up),zvQ s _ (zcl s hs)]
 generalize(s.map up==([70,76,65,71,83]:List UInt8))=b0
 generalize(s.map up==([85,73,68]:List UInt8))=b1
 generalize(s.map up==([82,70,67,56,50,50,46,83,73,90,69]:List UInt8))=b2
 generalize(s.map up==([66,79,68,89,46,80,69,69,75,91,93]:List UInt8))=b3
 generalize(s.map up==([66,79,68,89,91,93]:List UInt8))=b4
 cases b0 with
 |true=>exact⟨1,rfl,rfl,by omega⟩
 |false=>
  cases b1 with
  |true=>exact⟨2,rfl,rfl,by omega⟩
  |false=>
  cases b2 with
  |true=>exact⟨4,rfl,rfl,by omega⟩
  |false=>
   cases b3 with
   |true=>exact⟨8,rfl,rfl,by omega⟩
   |false=>
   cases b4 with
   |true=>exact⟨16,rfl,rfl,by omega⟩
   |false=>
    exact⟨0,rfl,rfl,by omega⟩
def qY(c:UInt8):List UInt8->List (List UInt8)
 | []=>[[]]
 |x::l=>if x==c then[]::qY c l else match qY c l with
  |h::t=>(x::h)::t
  | []=>[[x]]
theorem zaS{c:UInt8}:∀ {l:List UInt8},posOf c l=none->qY c l=[l]
 | [],h=>rfl
 |x::l,h=>by
  unfold posOf at h
  unfold qY
  cases hx:x==c with
  |true=>simp only[hx,if_true] at h;cases h
  |false=>
   simp only[hx,yu,if_false] at h |-
   split at h
   ·cases h
   ·rename_i hn;rw[zaS hn]
theorem zcp{c:UInt8}:∀ {l:List UInt8} {i:Nat},posOf c l=some i->qY c l=l.take i::qY c (l.drop (i+1))
 | [],i,h=>by cases h
 |x::l,i,h=>by
  unfold posOf at h
  conv=>lhs;unfold qY
  cases hx:x==c with
  |true=>simp only[hx,if_true] at h |-;cases h;rfl
  |false=>
   simp only[hx,yu,if_false] at h |-
   split at h
   ·rename_i j hj
    cases h
    rw[zcp hj];rfl
   ·cases h
theorem index_one(c:UInt8):∀ l:List UInt8,Go.Lib.index l [c]=match posOf c l with
  |some i=>((i:Nat):Int)
  |none=>-1
 | []=>rfl
 |b::l=>by
  unfold Go.Lib.index posOf
  have hp:([c]:List UInt8).isPrefixOf (b::l)=(b==c):=by
   rw[List.isPrefixOf_cons_cons,List.isPrefixOf_nil_left,yf]
   rw[yX,beq_iff_eq,beq_iff_eq];exact eq_comm
  rw[hp,index_one c l]
  cases b==c with
  |true=>rfl
  |false=>
   simp only[yu,if_false]
   cases posOf c l with
   |none=>rfl
   |some i=>
    simp only
    rw[if_neg (by rw[beq_iff_eq];omega)];rfl
theorem zk7(c:UInt8):∀ (k:Nat) (s:List UInt8),s.length<=k->Go.Lib.splitK [c] 0 (Go.Lib.count s [c]) s=qY c s
 |0,s,h=>by
  have:s=[]:=List.eq_nil_of_length_eq_zero (by omega)
  subst this
  rw[Go.Lib.count_miss (by rfl)];rfl
 |k+1,s,h=>by
  cases hp:posOf c s with
  |none=>
   rw[Go.Lib.count_miss (by rw[index_one,hp]),zaS hp];rfl
  |some i=>
   have hi:=jx hp
   have hix:Go.Lib.index s [c]=((i:Nat):Int):=by rw[index_one,hp]
   rw[Go.Lib.count_hit (by simp) hix,Nat.add_comm 1]
   unfold Go.Lib.splitK
   rw[if_neg (by rw[hix,beq_iff_eq];omega),hix,yj,zcp hp]
   rw[Nat.add_zero]
   congr 1
   exact zk7 c k (s.drop (i+1)) (by rw[yv];omega)
theorem zhq(c:UInt8)(s:List UInt8):jz s [c]=qY c s:=by
 unfold jz
 rw[Go.Lib.splitB_data]
 exact zk7 c s.length s (Nat.le_refl _)
theorem wu(c:UInt8):∀ l:List UInt8,0<(qY c l).length/\(qY c l).length<=l.length+1/\∀ p ∈ qY c l,p.length<=l.length
 | []=>⟨by simp [qY],by simp [qY],by simp [qY]⟩
 |x::l=>by
  obtain⟨h1,h2,h3⟩:=wu c l
  unfold qY
  split
  ·refine⟨by simp,by simp;omega,fun p hp=>?_⟩
   simp only[yA] at hp
   rcases hp with rfl|hp
   ·simp
   ·have:=h3 p hp;simp;omega
  ·split
   ·rename_i h t he
    rw[he] at h1 h2 h3
    refine⟨by simp,by simp at h2 |-;omega,fun p hp=>?_⟩
    simp only[yA] at hp
    rcases hp with rfl|hp
    ·have:=h3 h (by simp);simp;omega
    ·have:=h3 p (by simp [hp]);simp;omega
   ·rename_i he
    rw[he] at h1;simp at h1
def glue(p:List UInt8):List (List UInt8)->List (List UInt8)
 |h::t=>(p++h)::t
 | []=>[p]
theorem zn4{l:List UInt8}{a b:Nat}(h:a<=b)(hb:b<l.length):slice l a (b+1)=slice l a b++[l[b]]:=by
 unfold slice
 rw[show b+1-a=(b-a)+1 by omega,yF (by rw[yv];omega)]
 congr 2
 rw[yU]
 congr 1;omega
theorem zl3(N:Nat)(s:List UInt8)(hs:s.length<=20000)(c:UInt8):∀ (m from_ i:Nat) (out:List (List UInt8)),from_<=i->i<=s.length->out.length<=i->s.length+1<m+i ->
  qb N m s c ((from_:Nat):Int) ((i:Nat):Int) out=some (out++glue (slice s from_ i) (qY c (s.drop i)))
 |0,f,i,out,h1,h2,h3,h4=>by omega
 |m+1,f,i,out,h1,h2,h3,h4=>by
  unfold qb wL
  have c0:decide (((i:Nat):Int)<=((s.length:Nat):Int))=true:=by simp;omega
  have w1:yo .i64 (((i:Nat):Int)+1)=((i+1:Nat):Int):=by rw[wri (by omega) (by omega)];omega
  have hb:qZ ((f:Nat):Int) ((i:Nat):Int) s.length=true:=qn h1 h2
  simp only[c0,cond_true,w1,hb,yj,xH (show out.length+1<=200000 by omega)]
  by_cases hi:i<s.length
  ·have e:(((i:Nat):Int)==((s.length:Nat):Int))=false:=by simp;omega
   simp only[e,cond_false,zZ hi,cond_true,jr (u:=.u8) hi,drop_one hi]
   unfold qY
   cases hc:s[i]==c with
   |true=>
    simp only[cond_true,if_true]
    rw[zl3 N s hs c m (i+1) (i+1) (out++[slice s f i]) (Nat.le_refl _) (by omega) (by simp;omega) (by omega)]
    have:slice s (i+1) (i+1)=[]:=by unfold slice;simp
    rw[this]
    have hne:=(wu c (s.drop (i+1))).1
    cases hsp:qY c (s.drop (i+1)) with
    |nil=>rw[hsp] at hne;simp at hne
    |cons h t=>simp [glue]
   |false=>
    simp only[cond_false,yu,if_false]
    rw[zl3 N s hs c m f (i+1) out (by omega) (by omega) (by omega) (by omega),zn4 h1 hi]
    have hne:=(wu c (s.drop (i+1))).1
    cases hsp:qY c (s.drop (i+1)) with
    |nil=>rw[hsp] at hne;simp at hne
    |cons h t=>simp [glue]
  ·have hie:i=s.length:=by omega
   subst hie
   simp only[show(((s.length:Nat):Int)==((s.length:Nat):Int))=true from beq_self_eq_true _,cond_true]
   rw[yq (Nat.le_refl _)]
   have:∀ (m:Nat) (o:List (List UInt8)),0<m->qb N m s c ((s.length+1:Nat):Int) ((s.length+1:Nat):Int) o=some o:=by
    intro m o hm
    cases m with
    |zero=>omega
    |succ m=>
     unfold qb wL
     have c1:decide (((s.length+1:Nat):Int)<=((s.length:Nat):Int))=false:=by simp;omega
     simp only[c1,cond_false]
   rw[this m _ (by omega)]
   simp [qY,glue]
theorem zs2(s:List UInt8)(hs:s.length<=20000)(c:UInt8):kq 200000 s c=some (qY c s,()):=by
 unfold kq
 have:=zl3 200000 s hs c 200000 0 0 [] (by omega) (by omega) (by simp) (by omega)
 rw[show((0:Nat):Int)=(0:Int) from rfl] at this
 rw[this]
 have h0:slice s 0 0=[]:=by unfold slice;simp
 rw[h0,yw]
 have hne:=(wu c s).1
 cases hsp:qY c s with
 |nil=>rw[hsp] at hne;simp at hne
 |cons h t=>rfl
def ziw(s:List UInt8):Option Nat:=if s=[42] then some 0 else match zc6 s with
 |some v=>if v=0 then none else some v
 |none=>none
def zmh(s:List UInt8)(o:Option (Int×Bool×Unit)):Prop:=match ziw s with
 |some v=>o=some (((v:Nat):Int),true,())
 |none=>∃ x,o=some (x,false,())
theorem zbZ(s:List UInt8)(hs:s.length<=20000):zmh s (qe 200000 s):=by
 unfold zmh ziw qe
 by_cases h:s=[42]
 ·subst h;rfl
 ·have e:(s==([42]:List UInt8))=false:=by simpa using h
  simp only[e,cond_false,if_neg h]
  rw[zjp 200000 (by omega) s (by omega)]
  unfold zpD
  simp only[ya]
  cases zc6 s with
  |none=>exact⟨_,rfl⟩
  |some v=>
   simp only[cond_true]
   by_cases hv:v=0
   ·subst hv;exact⟨_,rfl⟩
   ·rw[if_neg hv]
    have:(((v:Nat):Int) != 0)=true:=by simp;omega
    simp only[this]
theorem zgz(s:List UInt8):zmh s (wD 200000 s):=by
 unfold zmh ziw wD
 by_cases h:s=[42]
 ·subst h;rfl
 ·have e:(s==([42]:List UInt8))=false:=by simpa using h
  simp only[e,cond_false,if_neg h]
  rw[zl1 200000 (by omega) s]
  unfold zpD
  simp only[ya]
  cases zc6 s with
  |none=>exact⟨_,rfl⟩
  |some v=>
   simp only[cond_true]
   by_cases hv:v=0
   ·subst hv;exact⟨_,rfl⟩
   ·rw[if_neg hv]
    have:decide ((0:Int)<((v:Nat):Int))=true:=by simp;omega
    simp only[this]
def zbl(s:List UInt8):Option (Int×Int):=match posOf 58 s with
 |none=>match ziw s with
  |some v=>some (((v:Nat):Int),((v:Nat):Int))
  |none=>none
 |some i=>match ziw (s.take i),ziw (s.drop (i+1)) with
  |some a,some b=>some (((a:Nat):Int),((b:Nat):Int))
  |_,_=>none
def jW:List (List UInt8)->Option (List (Int×Int))
 | []=>some []
 |s::l=>match zbl s,jW l with
  |some r,some t=>some (r::t)
  |_,_=>none
def kH(s:List UInt8):Option ((List (Int×Int))×Bool×Unit):=some (match jW (qY 44 s) with
 |some l=>(l,true,())
 |none=>([],false,()))
theorem zve(s:List UInt8):(([58]:List UInt8)==s)=true↔s=[58]:=by rw[beq_iff_eq];exact eq_comm
theorem zz6(s:List UInt8):qx 200000 s 58=some (jI 58 s 0,()):=rfl
theorem zb2{a b:List UInt8}(oa ob:Option (Int×Bool×Unit))(ha:zmh a oa)(hb:zmh b ob)(R:Type)(f:Int×Int->Option R)(g:Option R):
  (yr oa fun y1=>yr ob fun y2=>cond (!y1.2.1) g (cond (!y2.2.1) g (f (y1.1,y2.1))))=match ziw a,ziw b with
   |some x,some y=>f (((x:Nat):Int),((y:Nat):Int))
   |_,_=>g:=by
 unfold zmh at ha hb
 cases h1:ziw a with
 |none=>
  rw[h1] at ha
  obtain⟨x,rfl⟩:=ha
  cases h2:ziw b with
  |none=>rw[h2] at hb;obtain⟨y,rfl⟩:=hb;rfl
  |some v=>rw[h2] at hb;subst hb;rfl
 |some u=>
  rw[h1] at ha
  subst ha
  cases h2:ziw b with
  |none=>rw[h2] at hb;obtain⟨y,rfl⟩:=hb;rfl
  |some v=>rw[h2] at hb;subst hb;rfl
theorem zvM(parts:List (List UInt8))(hp:parts.length<=20001)(hq:∀ p ∈ parts,p.length<=20000):∀ (m i:Nat) (out:List (Int×Int)),i<=parts.length->out.length<=i->parts.length<m+i ->
  match jW (parts.drop i) with
  |some l=>zD 200000 m ((parts.length:Nat):Int) ((i:Nat):Int) parts out=some (Sum.inr (parts,out++l))
  |none=>∃ o,zD 200000 m ((parts.length:Nat):Int) ((i:Nat):Int) parts out=some (Sum.inl (parts,o))
 |0,i,out,h,ho,h'=>by omega
 |m+1,i,out,h,ho,h'=>by
  unfold zD xQ
  by_cases hi:i<parts.length
  ·have hs:parts[i].length<=20000:=hq _ (yE hi)
   have w1:yo .i64 (((i:Nat):Int)+1)=((i+1:Nat):Int):=by rw[wri (by omega) (by omega)];omega
   simp only[zhN hi,cond_true,zZ hi,yj,jr (u:=.str) hi,w1,xH (show out.length+1<=200000 by omega),zz6,zgU,ya]
   rw[drop_one hi]
   unfold jW
   generalize parts[i]=s at hs
   have ihs:=fun r:Int×Int=>zvM parts hp hq m (i+1) (out++[r]) (by omega) (by simp;omega) (by omega)
   have fin:∀ (o:Option (List (List UInt8)×List (Int×Int) ⊕ List (List UInt8)×List (Int×Int))),(o=match zbl s with
     |some r=>zD 200000 m ((parts.length:Nat):Int) ((i+1:Nat):Int) parts (out++[r])
     |none=>some (Sum.inl (parts,out)))->match(match zbl s,jW (parts.drop (i+1)) with
      |some r,some t=>some (r::t)
      |_,_=>none) with
     |some l=>o=some (Sum.inr (parts,out++l))
     |none=>∃ o',o=some (Sum.inl (parts,o')):=by
    intro o ho
    subst ho
    cases hr:zbl s with
    |none=>exact⟨_,rfl⟩
    |some r=>
     have ih:=ihs r
     cases ht:jW (parts.drop (i+1)) with
     |none=>rw[ht] at ih;exact ih
     |some t=>rw[ht] at ih;simp only at ih |-;rw[ih,yH];rfl
   by_cases h58:s=[58]
   ·subst h58
    simp only[show(([58]:List UInt8)==[58])=true from rfl,cond_true]
    have hb1:qZ (0:Int) (0:Int) (yb ([58]:List UInt8))=true:=rfl
    have hb2:qZ (1:Int) (((yb ([58]:List UInt8)):Nat):Int) (yb ([58]:List UInt8))=true:=rfl
    simp only[hb1,hb2,cond_true]
    refine fin _ ?_
    refine(zb2 _ _ (zbZ (slice [58] 0 0) (by simp [slice])) (zbZ (slice [58] 1 ([58]:List UInt8).length) (by simp [slice])) _ (fun r=>zD 200000 m ((parts.length:Nat):Int) ((i+1:Nat):Int) parts (out++[r])) (some (Sum.inl (parts,out)))).trans ?_
    rfl
   ·have e58:(([58]:List UInt8)==s)=false:=by
     cases e:([58]:List UInt8)==s with
     |false=>rfl
     |true=>exact absurd ((zve s).1 e) h58
    simp only[e58,cond_false]
    cases hpos:posOf 58 s with
    |none=>
     simp only[show decide ((0:Int) <= -1)=false from rfl,cond_false]
     refine fin _ ?_
     refine(zb2 _ _ (zbZ s hs) (zbZ s hs) _ (fun r=>zD 200000 m ((parts.length:Nat):Int) ((i+1:Nat):Int) parts (out++[r])) (some (Sum.inl (parts,out)))).trans ?_
     unfold zbl
     rw[hpos]
     cases ziw s<;>rfl
    |some k=>
     obtain⟨q1,q2,q3⟩:=jx hpos
     simp only[Nat.zero_add]
     have d0:decide ((0:Int)<=((k:Nat):Int))=true:=by simp
     have w2:yo .i64 (((k:Nat):Int)+1)=((k+1:Nat):Int):=by rw[wri (by omega) (by omega)];omega
     have hb1:qZ (0:Int) ((k:Nat):Int) s.length=true:=by
      have:=qn (a:=0) (b:=k) (n:=s.length) (by omega) (by omega)
      rwa [show((0:Nat):Int)=(0:Int) from rfl] at this
     have hb2:qZ ((k+1:Nat):Int) ((s.length:Nat):Int) s.length=true:=qn (by omega) (by omega)
     simp only[d0,cond_true,w2,hb1,hb2,yj,ql,zap]
     refine fin _ ?_
     refine(zb2 _ _ (zbZ (s.take k) (by rw[yD];omega)) (zbZ (s.drop (k+1)) (by rw[yv];omega)) _ (fun r=>zD 200000 m ((parts.length:Nat):Int) ((i+1:Nat):Int) parts (out++[r])) (some (Sum.inl (parts,out)))).trans ?_
     unfold zbl
     rw[hpos]
     simp only
     cases ziw (s.take k) with
     |none=>rfl
     |some a=>cases ziw (s.drop (k+1))<;>rfl
  ·simp only[zhM hi,cond_false]
   rw[yq (by omega)]
   simp only[jW,yO]
theorem zr1(s:List UInt8)(hs:s.length<=20000):jT 200000 s=kH s:=by
 unfold jT kH
 have hb:Nat.ble s.length zcZ=true:=by rw[Nat.ble_eq];unfold zcZ;omega
 obtain⟨l1,l2,l3⟩:=wu 44 s
 have:=zvM (qY 44 s) (by omega) (fun p hp=>by have:=l3 p hp;omega) 200000 0 [] (by omega) (by simp) (by omega)
 rw[show((0:Nat):Int)=(0:Int) from rfl,yw] at this
 simp only[hb,cond_true,zhq]
 cases hr:jW (qY 44 s) with
 |some l=>rw[hr] at this;simp only at this;rw[this];rfl
 |none=>rw[hr] at this;obtain⟨o,h⟩:=this;rw[h];rfl
theorem zvZ(parts:List (List UInt8))(hp:parts.length<=20001)(hq:∀ p ∈ parts,p.length<=20000):∀ (m i:Nat) (out:List (Int×Int)),i<=parts.length->out.length<=i->parts.length<m+i ->
  match jW (parts.drop i) with
  |some l=>zG 200000 m parts ((i:Nat):Int) out=some (Sum.inr (out++l))
  |none=>∃ o,zG 200000 m parts ((i:Nat):Int) out=some (Sum.inl o)
 |0,i,out,h,ho,h'=>by omega
 |m+1,i,out,h,ho,h'=>by
  unfold zG zaz
  by_cases hi:i<parts.length
  ·have hs:parts[i].length<=20000:=hq _ (yE hi)
   have w1:yo .i64 (((i:Nat):Int)+1)=((i+1:Nat):Int):=by rw[wri (by omega) (by omega)];omega
   simp only[zhN hi,cond_true,zZ hi,yj,jr (u:=.str) hi,w1,xH (show out.length+1<=200000 by omega)]
   rw[drop_one hi]
   unfold jW
   generalize parts[i]=s at hs
   rw[zs2 s hs 58]
   simp only[ya]
   have ihs:=fun r:Int×Int=>zvZ parts hp hq m (i+1) (out++[r]) (by omega) (by simp;omega) (by omega)
   have fin:∀ (o:Option (List (Int×Int) ⊕ List (Int×Int))),(o=match zbl s with
     |some r=>zG 200000 m parts ((i+1:Nat):Int) (out++[r])
     |none=>some (Sum.inl out))->match(match zbl s,jW (parts.drop (i+1)) with
      |some r,some t=>some (r::t)
      |_,_=>none) with
     |some l=>o=some (Sum.inr (out++l))
     |none=>∃ o',o=some (Sum.inl o'):=by
    intro o ho
    subst ho
    cases hr:zbl s with
    |none=>exact⟨_,rfl⟩
    |some r=>
     have ih:=ihs r
     cases ht:jW (parts.drop (i+1)) with
     |none=>rw[ht] at ih;exact ih
     |some t=>rw[ht] at ih;simp only at ih |-;rw[ih,yH];rfl
   cases hpos:posOf 58 s with
   |none=>
    rw[zaS hpos]
    have c1:decide ((2:Int)<(((yb [s]):Nat):Int))=false:=rfl
    have c2:inb (0:Int) (yb [s])=true:=rfl
    have c3:yo .i64 ((((yb [s]):Nat):Int)-(1:Int))=0:=rfl
    simp only[c1,cond_false,c2,cond_true,c3]
    refine fin _ ?_
    refine(zb2 _ _ (zgz s) (zgz s) _ (fun r=>zG 200000 m parts ((i+1:Nat):Int) (out++[r])) (some (Sum.inl out))).trans ?_
    unfold zbl
    rw[hpos]
    cases ziw s<;>rfl
   |some k=>
    obtain⟨q1,q2,q3⟩:=jx hpos
    rw[zcp hpos]
    cases hpos2:posOf 58 (s.drop (k+1)) with
    |none=>
     rw[zaS hpos2]
     have c1:decide ((2:Int)<(((yb [s.take k,s.drop (k+1)]):Nat):Int))=false:=rfl
     have c2:inb (0:Int) (yb [s.take k,s.drop (k+1)])=true:=rfl
     have c3:yo .i64 ((((yb [s.take k,s.drop (k+1)]):Nat):Int)-(1:Int))=1:=rfl
     have c4:inb (1:Int) (yb [s.take k,s.drop (k+1)])=true:=rfl
     simp only[c1,cond_false,c2,cond_true,c3,c4]
     refine fin _ ?_
     refine(zb2 _ _ (zgz (s.take k)) (zgz (s.drop (k+1))) _ (fun r=>zG 200000 m parts ((i+1:Nat):Int) (out++[r])) (some (Sum.inl out))).trans ?_
     unfold zbl
     rw[hpos]
     simp only
     cases ziw (s.take k) with
     |none=>rfl
     |some a=>cases ziw (s.drop (k+1))<;>rfl
    |some k2=>
     rw[zcp hpos2]
     have hlen:=(wu 58 ((s.drop (k+1)).drop (k2+1))).1
     have c1:decide ((2:Int)<(((yb (s.take k::(s.drop (k+1)).take k2::qY 58 ((s.drop (k+1)).drop (k2+1)))):Nat):Int))=true:=by
      simp only[yk,decide_eq_true_eq];omega
     simp only[c1,cond_true]
     refine fin _ ?_
     have hbad:zbl s=none:=by
      unfold zbl
      rw[hpos]
      simp only
      have:ziw (s.drop (k+1))=none:=by
       unfold ziw
       obtain⟨p1,p2,p3⟩:=jx hpos2
       have hne:s.drop (k+1)≠[42]:=by
        intro e
        rw[e] at p2 p1
        have:k2=0:=by simp at p1;omega
        subst this
        simp at p2
       rw[if_neg hne]
       have hv:zjR 0 (s.drop (k+1))=none:=by
        have key:∀ (l:List UInt8) (acc j:Nat),l[j]?=some 58->zjR acc l=none:=by
         intro l
         induction l with
         |nil=>intro acc j hj;simp at hj
         |cons c r ih=>
          intro acc j hj
          unfold zjR
          cases j with
          |zero=>
           simp only[List.getElem?_cons_zero,Option.some.injEq] at hj
           subst hj
           rfl
          |succ j=>
           split
           ·exact ih _ j (by simpa using hj)
           ·rfl
        exact key _ 0 k2 p2
       unfold zc6
       rw[hv]
      rw[this]
      cases ziw (s.take k)<;>rfl
     rw[hbad]
  ·simp only[zhM hi,cond_false]
   rw[yq (by omega)]
   simp only[jW,yO]
theorem zuG(s:List UInt8)(hs:s.length<=20000):ko 200000 s=kH s:=by
 unfold ko kH
 rw[zs2 s hs 44]
 obtain⟨l1,l2,l3⟩:=wu 44 s
 have:=zvZ (qY 44 s) (by omega) (fun p hp=>by have:=l3 p hp;omega) 200000 0 [] (by omega) (by simp) (by omega)
 rw[show((0:Nat):Int)=(0:Int) from rfl,yw] at this
 simp only[ya]
 cases hr:jW (qY 44 s) with
 |some l=>rw[hr] at this;simp only at this;rw[this];rfl
 |none=>rw[hr] at this;obtain⟨o,h⟩:=this;rw[h];rfl
def flA:List UInt8:=[92,65,78,83,87,69,82,69,68]
def flF:List UInt8:=[92,70,76,65,71,71,69,68]
def flD:List UInt8:=[92,68,69,76,69,84,69,68]
def flE:List UInt8:=[92,83,69,69,78]
def flR:List UInt8:=[92,68,82,65,70,84]
def flT:List (List UInt8×UInt8):=[(flA,1),(flF,2),(flD,4),(flE,8),(flR,16)]
def flS(s:List UInt8):Option Nat:=
 if s.map up=flA then some 1 else if s.map up=flF then some 2 else if s.map up=flD then some 4 else if s.map up=flE then some 8 else if s.map up=flR then some 16 else none
theorem zoW{s:List UInt8}{n:Nat}(h:flS s=some n):0<n/\n<32:=by
 unfold flS at h
 split at h
 ·cases h;omega
 ·split at h
  ·cases h;omega
  ·split at h
   ·cases h;omega
   ·split at h
    ·cases h;omega
    ·split at h
     ·cases h;omega
     ·cases h
theorem zvt(u:List UInt8):zbR .str .u8 flT u=if u=flA then some 1 else if u=flF then some 2 else if u=flD then some 4 else if u=flE then some 8 else if u=flR then some 16 else none:=by
 show cond (u==flA) (some 1) (cond (u==flF) (some 2) (cond (u==flD) (some 4) (cond (u==flE) (some 8) (cond (u==flR) (some 16) none))))=_
 have h:∀ (x:List UInt8) (a b:Option UInt8),cond (u==x) a b=if u=x then a else b:=fun x a b=>by
  cases e:u==x with
  |true=>rw[beq_iff_eq] at e;rw[if_pos e];rfl
  |false=>rw[if_neg (by simpa using e)];rfl
 simp only[h]
theorem zvs(s:List UInt8):zbR .str .u8 flT (s.map up)=(flS s).map yp:=by
 rw[zvt]
 unfold flS
 split
 ·rfl
 ·split
  ·rfl
  ·split
   ·rfl
   ·split
    ·rfl
    ·split<;>rfl
theorem zbN(s:List UInt8)(hs:s.length<=20000)(h0:s≠[])(h32:posOf 32 s=none):j4 200000 ((([40]:List UInt8)++s)++([41]:List UInt8))=some (match flS s with
  |some n=>(yp n,true,())
  |none=>(0,false,())):=by
 have e1:jF 200000 ((([40]:List UInt8)++s)++([41]:List UInt8)) ([40]:List UInt8)=some (s++[41],true,()):=by
  unfold jF jG jH
  have hl:(([40]++s)++[41]:List UInt8).length=s.length+2:=by simp
  have c1:decide ((((yb ([40]:List UInt8)):Nat):Int)<=(((yb ((([40]:List UInt8)++s)++([41]:List UInt8))):Nat):Int))=true:=by rw[hl];simp;omega
  have c2:qZ (0:Int) (((yb ([40]:List UInt8)):Nat):Int) (yb ((([40]:List UInt8)++s)++([41]:List UInt8)))=true:=by
   have:=qn (a:=0) (b:=1) (n:=(([40]++s)++[41]:List UInt8).length) (by omega) (by rw[hl];omega)
   exact this
  have c3:qZ (((yb ([40]:List UInt8)):Nat):Int) (((yb ((([40]:List UInt8)++s)++([41]:List UInt8))):Nat):Int) (yb ((([40]:List UInt8)++s)++([41]:List UInt8)))=true:=qn (by rw[hl];simp) (Nat.le_refl _)
  simp only[c1,c2,c3,cond_true,ya,yj,zap]
  rfl
 have e2:z7 200000 (s++[41]) ([41]:List UInt8)=some (s,true,()):=by
  unfold z7 qv qw
  have hl:(s++[41]:List UInt8).length=s.length+1:=by simp
  have w:yo .i64 ((((yb (s++[41]:List UInt8)):Nat):Int)-(((yb ([41]:List UInt8)):Nat):Int))=((s.length:Nat):Int):=by rw[hl,wri (by simp) (by simp;omega)];simp
  have c1:decide ((((yb ([41]:List UInt8)):Nat):Int)<=(((yb (s++[41]:List UInt8)):Nat):Int))=true:=by rw[hl];simp;omega
  have c2:qZ ((s.length:Nat):Int) (((yb (s++[41]:List UInt8)):Nat):Int) (yb (s++[41]:List UInt8))=true:=qn (by rw[hl];omega) (Nat.le_refl _)
  have c3:qZ (0:Int) ((s.length:Nat):Int) (yb (s++[41]:List UInt8))=true:=by
   have:=qn (a:=0) (b:=s.length) (n:=(s++[41]:List UInt8).length) (by omega) (by rw[hl];omega)
   exact this
  have q1:(s++[41]:List UInt8).drop s.length=[41]:=by simp
  have q2:(s++[41]:List UInt8).take s.length=s:=by simp
  simp only[w,c1,c2,c3,cond_true,ya,yj,zap,ql,q1,q2,show(([41]:List UInt8)==[41])=true from rfl,yd,cond_false]
 unfold j4
 have e3:(s==([]:List UInt8))=false:=by simpa using h0
 have e4:zdG 200000 (31:UInt8)=some ([1,2,4,8,16],()):=by kernel_rfl
 have e5:jK 200000 200000 [1,2,4,8,16] (((yb ([1,2,4,8,16]:List UInt8)):Nat):Int) (0:Int) ([]:List ((List UInt8)×UInt8))=some flT:=by kernel_rfl
 have e6:Nat.ble (yb s) zcZ=true:=by rw[Nat.ble_eq];unfold zcZ;omega
 simp only[e1,e2,ya,yd,cond_false,e3,e4,e5,e6,cond_true,zhq,zaS h32]
 unfold jc kl
 have c1:decide ((0:Int)<(((yb [s]):Nat):Int))=true:=rfl
 have c2:inb (0:Int) (yb [s])=true:=rfl
 simp only[c1,c2,cond_true,show nth .str [s] (yG 0)=s from rfl,zdq s (by omega),ya,zvs]
 cases flS s with
 |none=>rfl
 |some n=>
  simp only[ym,Option.isSome_some,yd,cond_false,Option.getD_some]
  unfold jc kl
  have w1:yo .i64 ((0:Int)+1)=1:=rfl
  have c3:decide ((1:Int)<(((yb [s]):Nat):Int))=false:=rfl
  simp only[w1,c3,cond_false,ya,zi]
  rw[show(0:UInt8) ||| yp n=yp n from UInt8.zero_or]
theorem zre(s:List UInt8)(hs:s.length<=20000):xy 200000 s=some (match flS s with
  |some n=>((n:Nat):Int)
  |none=>0,()):=by
 have hU:=zcl s hs
 unfold xy
 have s0:zk 200000 200000 s 1=cond (flA==s.map up) (some (.inl 1)) (zk 200000 199999 s 2):=by
  rw[show zk 200000 200000 s 1=(yr (zm 200000 s) fun y=>cond (flA==y.1) (some (.inl 1)) (zk 200000 199999 s 2)) from by kernel_rfl,hU];rfl
 have s1:zk 200000 199999 s 2=cond (flF==s.map up) (some (.inl 2)) (zk 200000 199998 s 4):=by
  rw[show zk 200000 199999 s 2=(yr (zm 200000 s) fun y=>cond (flF==y.1) (some (.inl 2)) (zk 200000 199998 s 4)) from by kernel_rfl,hU];rfl
 have s2:zk 200000 199998 s 4=cond (flD==s.map up) (some (.inl 4)) (zk 200000 199997 s 8):=by
  rw[show zk 200000 199998 s 4=(yr (zm 200000 s) fun y=>cond (flD==y.1) (some (.inl 4)) (zk 200000 199997 s 8)) from by kernel_rfl,hU];rfl
 have s3:zk 200000 199997 s 8=cond (flE==s.map up) (some (.inl 8)) (zk 200000 199996 s 16):=by
  rw[show zk 200000 199997 s 8=(yr (zm 200000 s) fun y=>cond (flE==y.1) (some (.inl 8)) (zk 200000 199996 s 16)) from by kernel_rfl,hU];rfl
 have s4:zk 200000 199996 s 16=cond (flR==s.map up) (some (.inl 16)) (zk 200000 199995 s 32):=by
  rw[show zk 200000 199996 s 16=(yr (zm 200000 s) fun y=>cond (flR==y.1) (some (.inl 16)) (zk 200000 199995 s 32)) from by kernel_rfl,hU];rfl
 rw[s0,s1,s2,s3,s4,show zk 200000 199995 s 32=some (.inr ()) from by kernel_rfl]
 have h:∀ (x:List UInt8) (a b:Option (Int ⊕ Unit)),cond (x==s.map up) a b=if s.map up=x then a else b:=fun x a b=>by
  cases e:x==s.map up with
  |true=>rw[beq_iff_eq] at e;rw[if_pos e.symm];rfl
  |false=>rw[if_neg (fun q=>by rw[q] at e;simp at e)];rfl
 simp only[h]
 unfold flS
 split
 ·rfl
 ·split
  ·rfl
  ·split
   ·rfl
   ·split
    ·rfl
    ·split<;>rfl
theorem zN(a k:Int):za 200000 [a] k=some (k==a,()):=by
 unfold za qU
 rw[show zI 200000 200000 [a] k (((yb [a]):Nat):Int) 0=cond (k==a) (some (.inl 0)) (some (.inr ())) from by kernel_rfl]
 cases k==a<;>rfl
theorem zhG(a b c k:Int):za 200000 [a,b,c] k=some (k==a||k==b||k==c,()):=by
 unfold za qU
 rw[show zI 200000 200000 [a,b,c] k (((yb [a,b,c]):Nat):Int) 0=cond (k==a) (some (.inl 0)) (cond (k==b) (some (.inl 1)) (cond (k==c) (some (.inl 2)) (some (.inr ())))) from by kernel_rfl]
 cases k==a<;>cases k==b<;>cases k==c<;>rfl
def zeS(c:UInt8):Bool:=cond (zhb c) true (c==93)
theorem zyU(N:Nat)(c:UInt8):zS N c=some (zeS c,()):=by
 unfold zS
 rw[zzF]
 simp only[ya]
 unfold zeS
 cases zhb c<;>rfl
theorem zsE(N:Nat)(s:List UInt8)(hs:s.length<=100000):∀ (m i:Nat),i<=s.length->s.length<m+i ->
  qh N m s (s.length:Int) (i:Int)=some (if(s.drop i).all zeS=true then Sum.inr () else Sum.inl ())
 |0,i,h,h'=>by omega
 |m+1,i,h,h'=>by
  unfold qh xn
  by_cases hi:i<s.length
  ·simp only[zhN hi,cond_true,zZ hi,yj,jr (u:=.u8) hi,zyU,ya,drop_one hi,yR]
   cases hc:zeS s[i] with
   |true=>
    simp only[yd,cond_false,yK]
    rw[wri (by omega) (by omega),show((i:Int)+1)=((i+1:Nat):Int) by omega]
    exact zsE N s hs m (i+1) (by omega) (by omega)
   |false=>simp
  ·simp only[zhM hi,cond_false]
   rw[yq (by omega)]
   simp
theorem zsF(N:Nat)(s:List UInt8)(hs:s.length<=100000):∀ (m i:Nat),i<=s.length->s.length<m+i ->
  qi N m s (s.length:Int) (i:Int)=some (if(s.drop i).all zeS=true then Sum.inr () else Sum.inl ())
 |0,i,h,h'=>by omega
 |m+1,i,h,h'=>by
  unfold qi xr
  by_cases hi:i<s.length
  ·simp only[zhN hi,cond_true,zZ hi,yj,jr (u:=.u8) hi,zyU,ya,drop_one hi,yR]
   cases hc:zeS s[i] with
   |true=>
    simp only[yd,cond_false,yK]
    rw[wri (by omega) (by omega),show((i:Int)+1)=((i+1:Nat):Int) by omega]
    exact zsF N s hs m (i+1) (by omega) (by omega)
   |false=>simp
  ·simp only[zhM hi,cond_false]
   rw[yq (by omega)]
   simp
theorem zvS(N:Nat)(s:List UInt8)(hs:s.length<=100000)(k a:Int):∀ (m i:Nat),i<=s.length->s.length<m+i ->
  qk N m (i:Int) k s a=some (if(s.drop i).all zeS=true then Sum.inr (k,s,a) else Sum.inl (k,s,a))
 |0,i,h,h'=>by omega
 |m+1,i,h,h'=>by
  unfold qk xA
  by_cases hi:i<s.length
  ·have ih:=zvS N s hs k a m (i+1) (by omega) (by omega)
   simp only[zhN hi,cond_true,zZ hi,yj,jr (u:=.u8) hi,zw0,ya,drop_one hi,yR]
   rw[wri (by omega) (by omega),show((i:Int)+1)=((i+1:Nat):Int) by omega,ih]
   unfold zeS
   cases hc:zhb s[i] with
   |true=>simp only[yd,cond_false,cond_true,yK]
   |false=>
    simp only[yc,cond_true,cond_false]
    cases h93:s[i]==(93:UInt8) with
    |true=>simp only[bne,h93,yd,cond_false,yK]
    |false=>simp only[bne,h93,yc,cond_true,Bool.false_and,yu,if_false]
  ·simp only[zhM hi,cond_false]
   rw[yq (by omega)]
   simp
def zh0(t:Tok):Bool:=if t.1=4 then t.2.1.all zeS else(t.1==5||t.1==6)
theorem ztB(t:Tok)(h:t.2.1.length<=20000):ku 200000 t=some (zh0 t,()):=by
 obtain⟨k,s,a⟩:=t
 unfold ku zh0
 simp only at h |-
 by_cases h4:k=4
 ·subst h4
  have:=zvS 200000 s (by omega) 4 a 200000 0 (by omega) (by omega)
  rw[show((0:Nat):Int)=(0:Int) from rfl,yw] at this
  simp only[show((4:Int) != 4)=false from rfl,cond_false,this,ya,if_true]
  cases s.all zeS<;>rfl
 ·have:(k != (4:Int))=true:=by simpa using h4
  simp only[this,cond_true,if_neg h4]
  cases k==(5:Int)<;>rfl
theorem zpS{p:UInt8->Bool}{c:UInt8}(hc:p c=false):∀ {l:List UInt8},l.all p=true->posOf c l=none:=by
 intro l h
 cases hp:posOf c l with
 |none=>rfl
 |some i=>
  obtain⟨h1,h2,_⟩:=jx hp
  have h3:=yN.1 h c (List.mem_of_getElem? h2)
  rw[hc] at h3;cases h3
def qC(t:Tok):Prop:=(1<=t.1/\t.1<=6)/\t.2.1.length<=20000/\(t.1=4->t.2.1≠[]/\posOf 32 t.2.1=none)
theorem zuf{b:List UInt8}{i n:Nat}{t:Tok}(hb:b.length<=20000)(hi:i<b.length)(h:wV b i=some (t,n)):qC t:=by
 unfold wV at h
 rw[List.getElem?_eq_getElem hi] at h
 simp only at h
 unfold qC
 split at h
 ·cases h;simp
 ·split at h
  ·cases h;simp
  ·split at h
   ·cases h;simp
   ·split at h
    ·split at h
     ·rename_i r k hr
      have:=znb _ hr
      rw[yv] at this
      cases h
      refine⟨⟨by simp,by simp⟩,by simp only;omega,by simp⟩
     ·cases h
    ·split at h
     ·split at h
      ·cases h
      ·split at h
       ·cases h
       ·split at h
        ·cases h
         refine⟨⟨by simp,by simp⟩,?_,by simp⟩
         simp only
         exact Nat.le_trans qQ hb
        ·cases h
     ·split at h
      ·rename_i hr
       have hle:=zis j1 (b.drop i)
       rw[yv] at hle
       cases h
       refine⟨⟨by simp,by simp⟩,Nat.le_trans qQ hb,fun _=>?_⟩
       have e:slice b i (i+run j1 (b.drop i))=(b.drop i).take (run j1 (b.drop i)):=by
        unfold slice;congr 1;omega
       refine⟨?_,?_⟩
       ·simp only[e]
        intro h0
        have:=congrArg yb h0
        rw[yD,yv] at this
        simp at this;omega
       ·simp only[e]
        exact zpS (p:=j1) (by kernel_rfl) (zjG j1 _)
      ·cases h
theorem zjI{b:List UInt8}(hb:b.length<=20000):∀ (f i:Nat) (l:List Tok),i<=b.length->zaV b f i=.inl l ->
  ∃ (p:List Tok) (e:Tok),l=p++[e]/\e.1=0/\(∀ t ∈ p,qC t)/\p.length+i<=b.length
 |0,i,l,hi,h=>by cases h
 |f+1,i,l,hi,h=>by
  unfold zaV at h
  cases hn:wV b i with
  |none=>rw[hn] at h;cases h
  |some q=>
   obtain⟨t,n⟩:=q
   rw[hn] at h
   simp only at h
   by_cases hl:b.length<=i
   ·rw[if_pos hl] at h
    cases h
    exact⟨[],t,rfl,(zvr hn).2 hl,(fun _ h=>by cases h),by simpa using hi⟩
   ·rw[if_neg hl] at h
    have hnl:=zjm (by omega) hn
    cases hr:zaV b f n with
    |inr a=>rw[hr] at h;cases h
    |inl l'=>
     rw[hr] at h
     cases h
     obtain⟨p,e,h1,h2,h3,h4⟩:=zjI hb f n l' hnl.2 hr
     refine⟨t::p,e,by rw[h1];rfl,h2,fun u hu=>?_,by simp only[yk];omega⟩
     rcases yA.1 hu with rfl|hu
     ·exact zuf hb (by omega) hn
     ·exact h3 u hu
def kc(t:Tok):UInt8:=nth .u8 [101,115,40,41,119,113,108] t.1.toNat
theorem zyX{t:Tok}(h:qC t):(kc t != 115)=!(t.1==1):=by
 obtain⟨k,s,a⟩:=t
 obtain⟨⟨h1,h2⟩,_⟩:=h
 simp only at h1 h2
 unfold kc
 simp only
 have:k=1\/k=2\/k=3\/k=4\/k=5\/k=6:=by omega
 rcases this with rfl|rfl|rfl|rfl|rfl|rfl<;>rfl
theorem zsO(l:List Tok)(hl:l.length<=20000)(hk:∀ t ∈ l,qC t):∀ (m i:Nat) (out:List UInt8),i<=l.length->out.length<=i->l.length<m+i ->
  jg 200000 m l out (i:Int)=some (out++(l.drop i).map kc)
 |0,i,out,h,ho,h'=>by omega
 |m+1,i,out,h,ho,h'=>by
  unfold jg zba
  by_cases hi:i<l.length
  ·have hok:=hk l[i] (yE hi)
   simp only[zhN hi,cond_true,zZ hi,yj,jr (u:=uS1) hi,drop_one hi,List.map_cons]
   have⟨k,hk1,hk2,hk3⟩:∃ k:Nat,l[i].1=((k:Nat):Int)/\1<=k/\k<=6:=⟨l[i].1.toNat,by have:=hok.1;omega,by have:=hok.1;omega,by have:=hok.1;omega⟩
   have hs:slice ([101,115,40,41,119,113,108]:List UInt8) k (k+1)=[kc l[i]]:=by
    unfold kc
    rw[hk1]
    have:k=1\/k=2\/k=3\/k=4\/k=5\/k=6:=by omega
    rcases this with rfl|rfl|rfl|rfl|rfl|rfl<;>rfl
   have hb:=qn (a:=k) (b:=k+1) (n:=7) (by omega) (by omega)
   have hw:yo .i64 (((k:Nat):Int)+1)=((k+1:Nat):Int):=by rw[wri (by omega) (by omega)];rfl
   simp only[hk1,hw,hb,cond_true,yj,hs]
   have hd:decide (yb out+yb [kc l[i]]<4611686018427387904)=true:=by simp;omega
   rw[hd,cond_true,wri (by omega) (by omega),show((i:Int)+1)=((i+1:Nat):Int) by omega,zsO l hl hk m (i+1) (out++[kc l[i]]) (by omega) (by simp;omega) (by omega),yH]
   rfl
  ·simp only[zhM hi,cond_false]
   rw[yq (by omega)]
   simp
theorem znB(l:List Tok)(hl:l.length<=20000)(hk:∀ t ∈ l,qC t):zac 200000 l=some (l.map kc,()):=by
 unfold zac
 have:=zsO l hl hk 200000 0 [] (by omega) (by simp) (by omega)
 rw[show((0:Nat):Int)=(0:Int) from rfl,yw,yh] at this
 rw[this];rfl
def zbs(s:List UInt8):Int:=match kg 200000 s with
 |some (n,_)=>n
 |none=>0
def zaN(s:List UInt8):Int:=match kf 200000 s with
 |some (n,_)=>n
 |none=>0
theorem zpa(s:List UInt8)(hs:s.length<=20000):wC 200000 s=some (zbs s,decide (0<zbs s),()):=by
 obtain⟨n,h1,h2,_⟩:=zg1 s hs
 unfold zbs
 rw[h2,h1]
theorem zrl(s:List UInt8)(hs:s.length<=20000):kg 200000 s=some (zbs s,()):=by
 obtain⟨n,h1,h2,_⟩:=zg1 s hs
 unfold zbs
 rw[h2]
theorem zcX(s:List UInt8)(hs:s.length<=20000):jP 200000 s=some (zaN s,decide (0<zaN s),()):=by
 obtain⟨n,h1,h2,_⟩:=zg0 s hs
 unfold zaN
 rw[h2,h1]
theorem zrh(s:List UInt8)(hs:s.length<=20000):kf 200000 s=some (zaN s,()):=by
 obtain⟨n,h1,h2,_⟩:=zg0 s hs
 unfold zaN
 rw[h2]
theorem zi5(s:List UInt8)(hs:s.length<=20000):0<=zbs s/\zbs s<=8:=by
 obtain⟨n,h1,h2,h3⟩:=zg1 s hs
 unfold zbs
 rw[h2];exact h3
theorem zi2(s:List UInt8)(hs:s.length<=20000):0<=zaN s/\zaN s<=16:=by
 obtain⟨n,h1,h2,h3⟩:=zg0 s hs
 unfold zaN
 rw[h2];exact h3
def zns(s:List UInt8):Int:=match flS s with
 |some n=>((n:Nat):Int)
 |none=>0
def vW(items:Bool)(s:List UInt8):Int:=cond items (zaN s) (zns s)
def zt{A:Type}(f:List UInt8->Option A)(op:A->A->A):A->List Tok->Option A
 |_,[]=>none
 |a,[t]=>if t.1=4 then(f t.2.1).map (op a) else none
 |a,t::s::r=>if t.1=4 then(match f t.2.1 with
  |none=>none
  |some x=>if s.1=1 then zt f op (op a x) r else none) else none
def fW(items:Bool)(s:List UInt8):Option Int:=if vW items s=0 then none else some (vW items s)
def orI(a b:Int):Int:=zaf .or .i64 a b
def WR(o:Option (Int×Bool×Unit))(s:Option Int):Prop:=match s with
 |some x=>o=some (x,true,())
 |none=>∃ v,o=some (v,false,())
theorem zoX(s:List UInt8)(hs:s.length<=20000):xy 200000 s=some (zns s,()):=zre s hs
theorem zp9(items:Bool)(l:List Tok)(hl:l.length<=20000)(hk:∀ t ∈ l,qC t):∀ (m i:Nat) (acc:Int),i<=l.length->i % 2=0->l.length<m+i ->
  match zt (fW items) orI acc (l.drop i) with
  |some x=>zH 200000 m l items acc (i:Int)=some (.inr (l,x))/\l.length % 2=1
  |none=>zH 200000 m l items acc (i:Int)=some (.inl ())\/∃ v,zH 200000 m l items acc (i:Int)=some (.inr (l,v))/\l.length % 2=0
 |0,i,acc,h,hp,h'=>by omega
 |m+1,i,acc,h,hp,h'=>by
  unfold zH wN
  by_cases hi:i<l.length
  ·have hok:=hk l[i] (yE hi)
   have hm:(yM ((i:Nat):Int) 2==1)=false:=by
    rw[show yM ((i:Nat):Int) 2=((i % 2:Nat):Int) from rfl,hp];rfl
   have hw:yo .i64 (((i:Nat):Int)+1)=((i+1:Nat):Int):=by rw[wri (by omega) (by omega)];rfl
   simp only[zhN hi,cond_true,zZ hi,yj,jr (u:=uS1) hi,hm,cond_false,hw,zoX _ hok.2.1,zrh _ hok.2.1,ya]
   rw[drop_one hi]
   have hval:∀ (R:Type) (a:Option R) (g:Int->Option R),(cond items (cond (zaN l[i].2.1==0) a (g (zaN l[i].2.1))) (cond (zns l[i].2.1==0) a (g (zns l[i].2.1))))=cond (vW items l[i].2.1==0) a (g (vW items l[i].2.1)):=by
    intro R a g;cases items<;>rfl
   rw[hval _ _ fun v=>zH 200000 m l items (zaf .or .i64 acc v) ((i+1:Nat):Int)]
   by_cases h4:l[i].1=4
   ·have e4:(l[i].1==(4:Int))=true:=by rw[beq_iff_eq];exact h4
    rw[e4,cond_true]
    by_cases h0:vW items l[i].2.1=0
    ·have e0:(vW items l[i].2.1==0)=true:=by rw[beq_iff_eq];exact h0
     rw[e0,cond_true]
     have:zt (fW items) orI acc (l[i]::l.drop (i+1))=none:=by
      cases l.drop (i+1) with
      |nil=>simp only[zt,if_pos h4,fW,if_pos h0,yn]
      |cons s r=>simp only[zt,if_pos h4,fW,if_pos h0]
     rw[this];exact .inl rfl
    ·have e0:(vW items l[i].2.1==0)=false:=by simpa using h0
     rw[e0,cond_false]
     cases m with
     |zero=>omega
     |succ m=>
      unfold zH wN
      by_cases hj:i+1<l.length
      ·have hm2:(yM ((i+1:Nat):Int) 2==1)=true:=by
        rw[show yM ((i+1:Nat):Int) 2=(((i+1) % 2:Nat):Int) from rfl,show(i+1) % 2=1 by omega];rfl
       have hw2:yo .i64 (((i+1:Nat):Int)+1)=((i+2:Nat):Int):=by rw[wri (by omega) (by omega)];rfl
       simp only[zhN hj,cond_true,zZ hj,yj,jr (u:=uS1) hj,hm2,hw2]
       rw[drop_one hj]
       have hs:zt (fW items) orI acc (l[i]::l[i+1]::l.drop (i+1+1))=if l[i+1].1=1 then zt (fW items) orI (orI acc (vW items l[i].2.1)) (l.drop (i+2)) else none:=by
        simp only[zt,if_pos h4,fW,if_neg h0]
       rw[hs]
       by_cases h1:l[i+1].1=1
       ·have e1:(l[i+1].1 != (1:Int))=false:=by simpa using h1
        rw[if_pos h1,e1,cond_false]
        exact zp9 items l hl hk m (i+2) _ (by omega) (by omega) (by omega)
       ·have e1:(l[i+1].1 != (1:Int))=true:=by simpa using h1
        rw[if_neg h1,e1,cond_true]
        exact .inl rfl
      ·simp only[zhM hj,cond_false]
       rw[yq (by omega)]
       have hs:zt (fW items) orI acc [l[i]]=some (orI acc (vW items l[i].2.1)):=by
        simp only[zt,if_pos h4,fW,if_neg h0,ym]
       rw[hs]
       exact⟨rfl,by omega⟩
   ·have e4:(l[i].1==(4:Int))=false:=by simpa using h4
    rw[e4,cond_false]
    have:zt (fW items) orI acc (l[i]::l.drop (i+1))=none:=by
     cases l.drop (i+1) with
     |nil=>simp only[zt,if_neg h4]
     |cons s r=>simp only[zt,if_neg h4]
    rw[this];exact .inl rfl
  ·simp only[zhM hi,cond_false]
   rw[yq (by omega)]
   simp only[zt]
   exact .inr ⟨_,rfl,by omega⟩
theorem ze5(items:Bool)(l:List Tok)(hl:l.length<=20000)(hk:∀ t ∈ l,qC t):WR (wo 200000 l items) (zt (fW items) orI 0 l):=by
 unfold wo
 have:=zp9 items l hl hk 200000 0 0 (by omega) (by omega) (by omega)
 rw[yw,show((0:Nat):Int)=(0:Int) from rfl] at this
 unfold WR
 cases hs:zt (fW items) orI 0 l with
 |some x=>
  rw[hs] at this
  obtain⟨h1,h2⟩:=this
  simp only[h1,ya,zi]
  rw[show yM ((l.length:Nat):Int) 2=((l.length % 2:Nat):Int) from rfl,h2];rfl
 |none=>
  rw[hs] at this
  rcases this with h1|⟨v,h1,h2⟩
  ·simp only[h1,ya,zi];exact⟨_,rfl⟩
  ·simp only[h1,ya,zi]
   rw[show yM ((l.length:Nat):Int) 2=((l.length % 2:Nat):Int) from rfl,h2];exact⟨_,rfl⟩
def fP(s:List UInt8):Option UInt8:=(flS s).map yp
def orP(a b:UInt8):UInt8:=a ||| b
theorem zvC{a b:Nat}(ha:a<32)(hb:b<32):∃ c:Nat,orI ((a:Nat):Int) ((b:Nat):Int)=((c:Nat):Int)/\c<32/\yp a ||| yp b=yp c:=by
 have h:((List.range 32).all fun a=>(List.range 32).all fun b=>decide (0<=orI ((a:Nat):Int) ((b:Nat):Int))&&(decide ((orI ((a:Nat):Int) ((b:Nat):Int)).toNat<32)&&((yp a ||| yp b)==yp (orI ((a:Nat):Int) ((b:Nat):Int)).toNat)))=true:=by kernel_rfl
 have h1:=yN.1 (yN.1 h a (vd.2 ha)) b (vd.2 hb)
 simp only[Bool.and_eq_true,decide_eq_true_eq,beq_iff_eq] at h1
 exact⟨_,(Int.toNat_of_nonneg h1.1).symm,h1.2.1,h1.2.2⟩
theorem ziV{s:List UInt8}(h:flS s=none):fW false s=none/\fP s=none:=by
 have e:vW false s=0:=by unfold vW zns;rw[cond_false,h]
 refine⟨?_,?_⟩
 ·unfold fW;rw[if_pos e]
 ·unfold fP;rw[h];rfl
theorem ziW{s:List UInt8}{n:Nat}(h:flS s=some n):fW false s=some ((n:Nat):Int)/\fP s=some (yp n):=by
 have e:vW false s=((n:Nat):Int):=by unfold vW zns;rw[cond_false,h]
 have:=zoW h
 refine⟨?_,?_⟩
 ·unfold fW;rw[if_neg (by rw[e];omega),e]
 ·unfold fP;rw[h];rfl
theorem znj:∀ (l:List Tok) (a:Nat),a<32->∃ o:Option Nat,(∀ x,o=some x->x<32)/\zt (fW false) orI ((a:Nat):Int) l=o.map (fun x=>((x:Nat):Int))/\zt fP orP (yp a) l=o.map yp
 | [],a,ha=>⟨none,(fun x h=>by cases h),rfl,rfl⟩
 | [t],a,ha=>by
  by_cases h4:t.1=4
  ·simp only[zt,if_pos h4]
   cases hf:flS t.2.1 with
   |none=>
    rw[(ziV hf).1,(ziV hf).2]
    exact⟨none,(fun x h=>by cases h),rfl,rfl⟩
   |some n=>
    obtain⟨h1,h2⟩:=zoW hf
    obtain⟨c,c1,c2,c3⟩:=zvC ha h2
    rw[(ziW hf).1,(ziW hf).2]
    refine⟨some c,(fun x h=>by cases h;exact c2),?_,?_⟩
    ·simp only[ym,c1]
    ·simp only[ym,orP,c3]
  ·simp only[zt,if_neg h4]
   exact⟨none,(fun x h=>by cases h),rfl,rfl⟩
 |t::s::r,a,ha=>by
  by_cases h4:t.1=4
  ·simp only[zt,if_pos h4]
   cases hf:flS t.2.1 with
   |none=>
    rw[(ziV hf).1,(ziV hf).2]
    exact⟨none,(fun x h=>by cases h),rfl,rfl⟩
   |some n=>
    obtain⟨h1,h2⟩:=zoW hf
    obtain⟨c,c1,c2,c3⟩:=zvC ha h2
    rw[(ziW hf).1,(ziW hf).2]
    simp only[c1,orP,c3]
    by_cases hs:s.1=1
    ·simp only[if_pos hs]
     exact znj r c c2
    ·simp only[if_neg hs]
     exact⟨none,(fun x h=>by cases h),rfl,rfl⟩
  ·simp only[zt,if_neg h4]
   exact⟨none,(fun x h=>by cases h),rfl,rfl⟩
theorem zlv{s:List UInt8}(h:zaN s=0):fW true s=none:=by
 unfold fW;rw[if_pos (show vW true s=0 from h)]
theorem zlw{s:List UInt8}(h:¬ zaN s=0):fW true s=some (zaN s):=by
 unfold fW;rw[if_neg (show ¬ vW true s=0 from h)];rfl
theorem ja{α:Type}(t:α)(r:List α):inb (0:Int) (yb (t::r))=true:=zZ (i:=0) (by simp)
theorem jb(t:Tok)(r:List Tok):nth uS1 (@yx Tok t r) 0=t:=rfl
theorem zr{α:Type}(t:α)(r:List α):ze (t::r) 1=r:=by rw[kD];rfl
theorem zn{α:Type}(t:α)(r:List α):z8 (1:Int) (t::r)=true:=xI (a:=1) (by simp)
theorem zja(y1:List UInt8)(y2:Int)(y3:List UInt8)(z:Tok)(q:List Tok)(hz:z.1=0\/z.1=3):∀ (p:List Tok) (a:UInt8) (m:Nat),(∀ t ∈ p,qC t/\t.1≠3)->p.length<m ->
  match zt fP orP a p with
  |some x=>(z.1=3->zA 200000 m (p++z::q) y1 y2 y3 a=some (.inr (z::q,y1,y2,y3,x)))/\(z.1≠3->∃ y,zA 200000 m (p++z::q) y1 y2 y3 a=some (.inl y))
  |none=>∃ y,zA 200000 m (p++z::q) y1 y2 y3 a=some (.inl y)
 |_,_,0,_,h=>by omega
 | [],a,m+1,hp,h=>by
  have e4:(z.1==(4:Int))=false:=by rcases hz with e|e<;>rw[e]<;>rfl
  simp only[zt,yh]
  unfold zA jj
  simp only[ja,cond_true,zN,jb,ya,e4,yc]
  exact⟨_,rfl⟩
 | [t],a,m+1,hp,h=>by
  obtain⟨hok,hk⟩:=hp t (yi ..)
  have e1:(z.1==(1:Int))=false:=by rcases hz with e|e<;>rw[e]<;>rfl
  simp only[ye,yh]
  have hl1:decide (yb ([40]:List UInt8)+yb (nth uS1 (@yx Tok t (z::q)) 0).2.1<4611686018427387904)=true:=by
   show decide (yb ([40]:List UInt8)+yb t.2.1<4611686018427387904)=true
   have:=hok.2.1;simp;omega
  have hl2:decide (yb (([40]:List UInt8)++(nth uS1 (@yx Tok t (z::q)) 0).2.1)+yb ([41]:List UInt8)<4611686018427387904)=true:=by
   show decide (yb (([40]:List UInt8)++t.2.1)+yb ([41]:List UInt8)<4611686018427387904)=true
   have:=hok.2.1;simp;omega
  unfold zA jj
  simp only[ja,cond_true,zN,ya,zr,zn,yf,hl1,hl2]
  simp only[jb]
  by_cases h4:t.1=4
  ·have e4:(t.1==(4:Int))=true:=by rw[beq_iff_eq];exact h4
   obtain⟨h0,h32⟩:=hok.2.2 h4
   have hne:(t.2.1 != ([]:List UInt8))=true:=by simpa using h0
   simp only[e4,yd,cond_false,zbN _ hok.2.1 h0 h32,zt,if_pos h4,fP]
   cases hf:flS t.2.1 with
   |none=>
    simp only[ya,cond_false,yn]
    exact⟨_,rfl⟩
   |some n=>
    simp only[ya,cond_true,ym,hne,yd,cond_false,orP]
    by_cases hzk:z.1=3
    ·have e5:(z.1==(3:Int))=true:=by rw[beq_iff_eq];exact hzk
     simp only[e5,cond_true]
     exact⟨fun _=>(by first|rfl|trivial),fun h=>absurd hzk h⟩
    ·have e5:(z.1==(3:Int))=false:=by simpa using hzk
     simp only[e5,cond_false,e1,yc,cond_true]
     exact⟨fun h=>absurd h hzk,fun _=>⟨_,rfl⟩⟩
  ·have e4:(t.1==(4:Int))=false:=by simpa using h4
   simp only[zt,if_neg h4,e4,yc,cond_true]
   exact⟨_,rfl⟩
 |t::s::r,a,m+1,hp,h=>by
  obtain⟨hok,hk⟩:=hp t (yi ..)
  obtain⟨hok2,hk2⟩:=hp s (yg _ (yi ..))
  have ek:(s.1==(3:Int))=false:=by simpa using hk2
  simp only[ye]
  have hl1:decide (yb ([40]:List UInt8)+yb (nth uS1 (@yx Tok t (s::(r++z::q))) 0).2.1<4611686018427387904)=true:=by
   show decide (yb ([40]:List UInt8)+yb t.2.1<4611686018427387904)=true
   have:=hok.2.1;simp;omega
  have hl2:decide (yb (([40]:List UInt8)++(nth uS1 (@yx Tok t (s::(r++z::q))) 0).2.1)+yb ([41]:List UInt8)<4611686018427387904)=true:=by
   show decide (yb (([40]:List UInt8)++t.2.1)+yb ([41]:List UInt8)<4611686018427387904)=true
   have:=hok.2.1;simp;omega
  unfold zA jj
  simp only[ja,cond_true,zN,ya,zr,zn,yf,hl1,hl2]
  simp only[jb]
  by_cases h4:t.1=4
  ·have e4:(t.1==(4:Int))=true:=by rw[beq_iff_eq];exact h4
   obtain⟨h0,h32⟩:=hok.2.2 h4
   have hne:(t.2.1 != ([]:List UInt8))=true:=by simpa using h0
   simp only[e4,yd,cond_false,zbN _ hok.2.1 h0 h32,zt,if_pos h4,fP]
   cases hf:flS t.2.1 with
   |none=>
    simp only[ya,cond_false,yn]
    exact⟨_,rfl⟩
   |some n=>
    simp only[ya,cond_true,ym,hne,yd,cond_false,orP]
    simp only[ek,cond_false]
    by_cases hs:s.1=1
    ·have e5:(s.1==(1:Int))=true:=by rw[beq_iff_eq];exact hs
     simp only[e5,yd,cond_false,if_pos hs]
     exact zja y1 y2 y3 z q hz r _ m (fun u hu=>hp u (yg _ (yg _ hu))) (by simp only[yk] at h;omega)
    ·have e5:(s.1==(1:Int))=false:=by simpa using hs
     simp only[e5,yc,cond_true,if_neg hs]
     exact⟨_,rfl⟩
  ·have e4:(t.1==(4:Int))=false:=by simpa using h4
   simp only[zt,if_neg h4,e4,yc,cond_true]
   exact⟨_,rfl⟩
theorem zg3(y1:List UInt8)(y2:Int)(y3:List (Int×Int))(y4:Int)(y5:Bool)(z:Tok)(q:List Tok)(hz:z.1=0\/z.1=3):∀ (p:List Tok) (a:UInt8) (m:Nat),(∀ t ∈ p,qC t/\t.1≠3)->p.length<m ->
  match zt fP orP a p with
  |some x=>(z.1=3->zz 200000 m (p++z::q) y1 y2 y3 y4 y5 a=some (.inr (z::q,y1,y2,y3,y4,y5,x)))/\(z.1≠3->∃ y,zz 200000 m (p++z::q) y1 y2 y3 y4 y5 a=some (.inl y))
  |none=>∃ y,zz 200000 m (p++z::q) y1 y2 y3 y4 y5 a=some (.inl y)
 |_,_,0,_,h=>by omega
 | [],a,m+1,hp,h=>by
  have e4:(z.1==(4:Int))=false:=by rcases hz with e|e<;>rw[e]<;>rfl
  simp only[zt,yh]
  unfold zz qS
  simp only[ja,cond_true,zN,jb,ya,e4,yc]
  exact⟨_,rfl⟩
 | [t],a,m+1,hp,h=>by
  obtain⟨hok,hk⟩:=hp t (yi ..)
  have e1:(z.1==(1:Int))=false:=by rcases hz with e|e<;>rw[e]<;>rfl
  simp only[ye,yh]
  have hl1:decide (yb ([40]:List UInt8)+yb (nth uS1 (@yx Tok t (z::q)) 0).2.1<4611686018427387904)=true:=by
   show decide (yb ([40]:List UInt8)+yb t.2.1<4611686018427387904)=true
   have:=hok.2.1;simp;omega
  have hl2:decide (yb (([40]:List UInt8)++(nth uS1 (@yx Tok t (z::q)) 0).2.1)+yb ([41]:List UInt8)<4611686018427387904)=true:=by
   show decide (yb (([40]:List UInt8)++t.2.1)+yb ([41]:List UInt8)<4611686018427387904)=true
   have:=hok.2.1;simp;omega
  unfold zz qS
  simp only[ja,cond_true,zN,ya,zr,zn,yf,hl1,hl2]
  simp only[jb]
  by_cases h4:t.1=4
  ·have e4:(t.1==(4:Int))=true:=by rw[beq_iff_eq];exact h4
   obtain⟨h0,h32⟩:=hok.2.2 h4
   have hne:(t.2.1 != ([]:List UInt8))=true:=by simpa using h0
   simp only[e4,yd,cond_false,zbN _ hok.2.1 h0 h32,zt,if_pos h4,fP]
   cases hf:flS t.2.1 with
   |none=>
    simp only[ya,cond_false,yn]
    exact⟨_,rfl⟩
   |some n=>
    simp only[ya,cond_true,ym,hne,yd,cond_false,orP]
    by_cases hzk:z.1=3
    ·have e5:(z.1==(3:Int))=true:=by rw[beq_iff_eq];exact hzk
     simp only[e5,cond_true]
     exact⟨fun _=>(by first|rfl|trivial),fun h=>absurd hzk h⟩
    ·have e5:(z.1==(3:Int))=false:=by simpa using hzk
     simp only[e5,cond_false,e1,yc,cond_true]
     exact⟨fun h=>absurd h hzk,fun _=>⟨_,rfl⟩⟩
  ·have e4:(t.1==(4:Int))=false:=by simpa using h4
   simp only[zt,if_neg h4,e4,yc,cond_true]
   exact⟨_,rfl⟩
 |t::s::r,a,m+1,hp,h=>by
  obtain⟨hok,hk⟩:=hp t (yi ..)
  obtain⟨hok2,hk2⟩:=hp s (yg _ (yi ..))
  have ek:(s.1==(3:Int))=false:=by simpa using hk2
  simp only[ye]
  have hl1:decide (yb ([40]:List UInt8)+yb (nth uS1 (@yx Tok t (s::(r++z::q))) 0).2.1<4611686018427387904)=true:=by
   show decide (yb ([40]:List UInt8)+yb t.2.1<4611686018427387904)=true
   have:=hok.2.1;simp;omega
  have hl2:decide (yb (([40]:List UInt8)++(nth uS1 (@yx Tok t (s::(r++z::q))) 0).2.1)+yb ([41]:List UInt8)<4611686018427387904)=true:=by
   show decide (yb (([40]:List UInt8)++t.2.1)+yb ([41]:List UInt8)<4611686018427387904)=true
   have:=hok.2.1;simp;omega
  unfold zz qS
  simp only[ja,cond_true,zN,ya,zr,zn,yf,hl1,hl2]
  simp only[jb]
  by_cases h4:t.1=4
  ·have e4:(t.1==(4:Int))=true:=by rw[beq_iff_eq];exact h4
   obtain⟨h0,h32⟩:=hok.2.2 h4
   have hne:(t.2.1 != ([]:List UInt8))=true:=by simpa using h0
   simp only[e4,yd,cond_false,zbN _ hok.2.1 h0 h32,zt,if_pos h4,fP]
   cases hf:flS t.2.1 with
   |none=>
    simp only[ya,cond_false,yn]
    exact⟨_,rfl⟩
   |some n=>
    simp only[ya,cond_true,ym,hne,yd,cond_false,orP]
    simp only[ek,cond_false]
    by_cases hs:s.1=1
    ·have e5:(s.1==(1:Int))=true:=by rw[beq_iff_eq];exact hs
     simp only[e5,yd,cond_false,if_pos hs]
     exact zg3 y1 y2 y3 y4 y5 z q hz r _ m (fun u hu=>hp u (yg _ (yg _ hu))) (by simp only[yk] at h;omega)
    ·have e5:(s.1==(1:Int))=false:=by simpa using hs
     simp only[e5,yc,cond_true,if_neg hs]
     exact⟨_,rfl⟩
  ·have e4:(t.1==(4:Int))=false:=by simpa using h4
   simp only[zt,if_neg h4,e4,yc,cond_true]
   exact⟨_,rfl⟩
theorem zkm(y1:List UInt8)(y2:Int)(y3:List (Int×Int))(y4:Int)(y5:Bool)(z:Tok)(q:List Tok)(hz:z.1=0\/z.1=3):∀ (p:List Tok) (a:UInt8) (m:Nat),(∀ t ∈ p,qC t/\t.1≠0)->p.length<m ->
  match zt fP orP a p with
  |some x=>(z.1=0->zB 200000 m (p++z::q) y1 y2 y3 y4 y5 a=some (.inr (z::q,y1,y2,y3,y4,y5,x)))/\(z.1≠0->∃ y,zB 200000 m (p++z::q) y1 y2 y3 y4 y5 a=some (.inl y))
  |none=>∃ y,zB 200000 m (p++z::q) y1 y2 y3 y4 y5 a=some (.inl y)
 |_,_,0,_,h=>by omega
 | [],a,m+1,hp,h=>by
  have e4:(z.1==(4:Int))=false:=by rcases hz with e|e<;>rw[e]<;>rfl
  simp only[zt,yh]
  unfold zB qT
  simp only[ja,cond_true,zN,jb,ya,e4,yc]
  exact⟨_,rfl⟩
 | [t],a,m+1,hp,h=>by
  obtain⟨hok,hk⟩:=hp t (yi ..)
  have e1:(z.1==(1:Int))=false:=by rcases hz with e|e<;>rw[e]<;>rfl
  simp only[ye,yh]
  have hl1:decide (yb ([40]:List UInt8)+yb (nth uS1 (@yx Tok t (z::q)) 0).2.1<4611686018427387904)=true:=by
   show decide (yb ([40]:List UInt8)+yb t.2.1<4611686018427387904)=true
   have:=hok.2.1;simp;omega
  have hl2:decide (yb (([40]:List UInt8)++(nth uS1 (@yx Tok t (z::q)) 0).2.1)+yb ([41]:List UInt8)<4611686018427387904)=true:=by
   show decide (yb (([40]:List UInt8)++t.2.1)+yb ([41]:List UInt8)<4611686018427387904)=true
   have:=hok.2.1;simp;omega
  unfold zB qT
  simp only[ja,cond_true,zN,ya,zr,zn,yf,hl1,hl2]
  simp only[jb]
  by_cases h4:t.1=4
  ·have e4:(t.1==(4:Int))=true:=by rw[beq_iff_eq];exact h4
   obtain⟨h0,h32⟩:=hok.2.2 h4
   have hne:(t.2.1 != ([]:List UInt8))=true:=by simpa using h0
   simp only[e4,yd,cond_false,zbN _ hok.2.1 h0 h32,zt,if_pos h4,fP]
   cases hf:flS t.2.1 with
   |none=>
    simp only[ya,cond_false,yn]
    exact⟨_,rfl⟩
   |some n=>
    simp only[ya,cond_true,ym,hne,yd,cond_false,orP]
    by_cases hzk:z.1=0
    ·have e5:(z.1==(0:Int))=true:=by rw[beq_iff_eq];exact hzk
     simp only[e5,cond_true]
     exact⟨fun _=>(by first|rfl|trivial),fun h=>absurd hzk h⟩
    ·have e5:(z.1==(0:Int))=false:=by simpa using hzk
     simp only[e5,cond_false,e1,yc,cond_true]
     exact⟨fun h=>absurd h hzk,fun _=>⟨_,rfl⟩⟩
  ·have e4:(t.1==(4:Int))=false:=by simpa using h4
   simp only[zt,if_neg h4,e4,yc,cond_true]
   exact⟨_,rfl⟩
 |t::s::r,a,m+1,hp,h=>by
  obtain⟨hok,hk⟩:=hp t (yi ..)
  obtain⟨hok2,hk2⟩:=hp s (yg _ (yi ..))
  have ek:(s.1==(0:Int))=false:=by simpa using hk2
  simp only[ye]
  have hl1:decide (yb ([40]:List UInt8)+yb (nth uS1 (@yx Tok t (s::(r++z::q))) 0).2.1<4611686018427387904)=true:=by
   show decide (yb ([40]:List UInt8)+yb t.2.1<4611686018427387904)=true
   have:=hok.2.1;simp;omega
  have hl2:decide (yb (([40]:List UInt8)++(nth uS1 (@yx Tok t (s::(r++z::q))) 0).2.1)+yb ([41]:List UInt8)<4611686018427387904)=true:=by
   show decide (yb (([40]:List UInt8)++t.2.1)+yb ([41]:List UInt8)<4611686018427387904)=true
   have:=hok.2.1;simp;omega
  unfold zB qT
  simp only[ja,cond_true,zN,ya,zr,zn,yf,hl1,hl2]
  simp only[jb]
  by_cases h4:t.1=4
  ·have e4:(t.1==(4:Int))=true:=by rw[beq_iff_eq];exact h4
   obtain⟨h0,h32⟩:=hok.2.2 h4
   have hne:(t.2.1 != ([]:List UInt8))=true:=by simpa using h0
   simp only[e4,yd,cond_false,zbN _ hok.2.1 h0 h32,zt,if_pos h4,fP]
   cases hf:flS t.2.1 with
   |none=>
    simp only[ya,cond_false,yn]
    exact⟨_,rfl⟩
   |some n=>
    simp only[ya,cond_true,ym,hne,yd,cond_false,orP]
    simp only[ek,cond_false]
    by_cases hs:s.1=1
    ·have e5:(s.1==(1:Int))=true:=by rw[beq_iff_eq];exact hs
     simp only[e5,yd,cond_false,if_pos hs]
     exact zkm y1 y2 y3 y4 y5 z q hz r _ m (fun u hu=>hp u (yg _ (yg _ hu))) (by simp only[yk] at h;omega)
    ·have e5:(s.1==(1:Int))=false:=by simpa using hs
     simp only[e5,yc,cond_true,if_neg hs]
     exact⟨_,rfl⟩
  ·have e4:(t.1==(4:Int))=false:=by simpa using h4
   simp only[zt,if_neg h4,e4,yc,cond_true]
   exact⟨_,rfl⟩
theorem zg2(y1:List UInt8)(y2:Int)(y3:List (Int×Int))(y5:UInt8)(z:Tok)(q:List Tok)(hz:z.1=0\/z.1=3):∀ (p:List Tok) (a:Int) (m:Nat),(∀ t ∈ p,qC t/\t.1≠3)->p.length<m ->
  match zt (fW true) orI a p with
  |some x=>(z.1=3->zy 200000 m (p++z::q) y1 y2 y3 a y5=some (.inr (z::q,y1,y2,y3,x,y5)))/\(z.1≠3->∃ y,zy 200000 m (p++z::q) y1 y2 y3 a y5=some (.inl y))
  |none=>∃ y,zy 200000 m (p++z::q) y1 y2 y3 a y5=some (.inl y)
 |_,_,0,_,h=>by omega
 | [],a,m+1,hp,h=>by
  have e4:(z.1==(4:Int))=false:=by rcases hz with e|e<;>rw[e]<;>rfl
  simp only[zt,yh]
  unfold zy qR
  simp only[ja,cond_true,zN,jb,ya,e4,yc]
  exact⟨_,rfl⟩
 | [t],a,m+1,hp,h=>by
  obtain⟨hok,hk⟩:=hp t (yi ..)
  have e1:(z.1==(1:Int))=false:=by rcases hz with e|e<;>rw[e]<;>rfl
  simp only[ye,yh]
  unfold zy qR
  simp only[ja,cond_true,zN,jb,ya,zr,zn,yf]
  by_cases h4:t.1=4
  ·have e4:(t.1==(4:Int))=true:=by rw[beq_iff_eq];exact h4
   have hi:=zi2 _ hok.2.1
   simp only[e4,yd,cond_false,zcX _ hok.2.1,ya,zt,if_pos h4]
   by_cases h0:zaN t.2.1=0
   ·have hd:decide (0<zaN t.2.1)=false:=by simp;omega
    simp only[zlv h0,yn,hd,yc,cond_true]
    exact⟨_,rfl⟩
   ·have hd:decide (0<zaN t.2.1)=true:=by simp;omega
    simp only[zlw h0,ym,hd,yd,cond_false,orI]
    by_cases hzk:z.1=3
    ·have e5:(z.1==(3:Int))=true:=by rw[beq_iff_eq];exact hzk
     simp only[e5,cond_true]
     exact⟨fun _=>(by first|rfl|trivial),fun h=>absurd hzk h⟩
    ·have e5:(z.1==(3:Int))=false:=by simpa using hzk
     simp only[e5,cond_false,e1,yc,cond_true]
     exact⟨fun h=>absurd h hzk,fun _=>⟨_,rfl⟩⟩
  ·have e4:(t.1==(4:Int))=false:=by simpa using h4
   simp only[zt,if_neg h4,e4,yc,cond_true]
   exact⟨_,rfl⟩
 |t::s::r,a,m+1,hp,h=>by
  obtain⟨hok,hk⟩:=hp t (yi ..)
  obtain⟨hok2,hk2⟩:=hp s (yg _ (yi ..))
  have ek:(s.1==(3:Int))=false:=by simpa using hk2
  simp only[ye]
  unfold zy qR
  simp only[ja,cond_true,zN,jb,ya,zr,zn,yf]
  by_cases h4:t.1=4
  ·have e4:(t.1==(4:Int))=true:=by rw[beq_iff_eq];exact h4
   have hi:=zi2 _ hok.2.1
   simp only[e4,yd,cond_false,zcX _ hok.2.1,ya,zt,if_pos h4]
   by_cases h0:zaN t.2.1=0
   ·have hd:decide (0<zaN t.2.1)=false:=by simp;omega
    simp only[zlv h0,hd,yc,cond_true]
    exact⟨_,rfl⟩
   ·have hd:decide (0<zaN t.2.1)=true:=by simp;omega
    simp only[zlw h0,hd,yd,cond_false,orI]
    simp only[ek,cond_false]
    by_cases hs:s.1=1
    ·have e5:(s.1==(1:Int))=true:=by rw[beq_iff_eq];exact hs
     simp only[e5,yd,cond_false,if_pos hs]
     exact zg2 y1 y2 y3 y5 z q hz r _ m (fun u hu=>hp u (yg _ (yg _ hu))) (by simp only[yk] at h;omega)
    ·have e5:(s.1==(1:Int))=false:=by simpa using hs
     simp only[e5,yc,cond_true,if_neg hs]
     exact⟨_,rfl⟩
  ·have e4:(t.1==(4:Int))=false:=by simpa using h4
   simp only[zt,if_neg h4,e4,yc,cond_true]
   exact⟨_,rfl⟩
def zdQ:List Tok->Option (List Tok×List Tok)
 | []=>none
 |t::r=>if t.1=3 then some ([],r) else(zdQ r).map fun p=>(t::p.1,p.2)
theorem xB:∀ {l p q:List Tok},zdQ l=some (p,q)->∃ z:Tok,z.1=3/\l=p++z::q/\∀ t ∈ p,t.1≠3
 | [],p,q,h=>by cases h
 |t::r,p,q,h=>by
  unfold zdQ at h
  by_cases h3:t.1=3
  ·rw[if_pos h3] at h
   cases h
   exact⟨t,h3,rfl,(fun _ h=>by cases h)⟩
  ·rw[if_neg h3] at h
   cases hc:zdQ r with
   |none=>rw[hc] at h;cases h
   |some pq=>
    rw[hc] at h
    cases h
    obtain⟨z,h1,h2,h4⟩:=xB (p:=pq.1) (q:=pq.2) hc
    refine⟨z,h1,by rw[h2];rfl,fun u hu=>?_⟩
    rcases yA.1 hu with rfl|hu
    ·exact h3
    ·exact h4 u hu
theorem ziQ{z:Tok}{q:List Tok}(hz:z.1=3):∀ {p:List Tok},(∀ t ∈ p,t.1≠3)->zdQ (p++z::q)=some (p,q)
 | [],_=>by unfold zdQ;simp only[yh,if_pos hz]
 |t::r,h=>by
  unfold zdQ
  simp only[ye,if_neg (h t (yi ..)),ziQ hz (p:=r) (fun u hu=>h u (yg _ hu)),ym]
theorem zoL:∀ {l:List Tok},(∀ t ∈ l,t.1≠3)->zdQ l=none
 | [],_=>rfl
 |t::r,h=>by
  unfold zdQ
  rw[if_neg (h t (yi ..)),zoL (l:=r) (fun u hu=>h u (yg _ hu))];rfl
theorem zbL:∀ {l:List Tok},zdQ l=none->∀ t ∈ l,t.1≠3
 | [],_,_,h=>by cases h
 |t::r,h,u,hu=>by
  unfold zdQ at h
  by_cases h3:t.1=3
  ·rw[if_pos h3] at h;cases h
  ·rw[if_neg h3] at h
   cases hc:zdQ r with
   |some pq=>rw[hc] at h;cases h
   |none=>
    rcases yA.1 hu with rfl|hu
    ·exact h3
    ·exact zbL hc u hu
theorem zhz{A:Type}{f:List UInt8->Option A}{op:A->A->A}:∀ {l:List Tok} {a x:A},zt f op a l=some x->∀ t ∈ l,t.1≠3
 | [],a,x,h,t,ht=>by cases ht
 | [t],a,x,h,u,hu=>by
  rw[yL.1 hu]
  by_cases h4:t.1=4
  ·omega
  ·simp only[zt,if_neg h4] at h;cases h
 |t::s::r,a,x,h,u,hu=>by
  by_cases h4:t.1=4
  ·simp only[zt,if_pos h4] at h
   cases hf:f t.2.1 with
   |none=>rw[hf] at h;cases h
   |some y=>
    rw[hf] at h
    by_cases h1:s.1=1
    ·simp only[if_pos h1] at h
     rcases yA.1 hu with rfl|hu
     ·omega
     ·rcases yA.1 hu with rfl|hu
      ·omega
      ·exact zhz h u hu
    ·simp only[if_neg h1] at h;cases h
  ·simp only[zt,if_neg h4] at h;cases h
def brS(items:Bool):List Tok->Option (Int×List Tok)
 | []=>none
 |a::r=>if a.1=2 then(match zdQ r with
  |none=>none
  |some ([],q)=>cond items none (some (0,q))
  |some (t::p,q)=>(zt (fW items) orI 0 (t::p)).map fun x=>(x,q)) else none
def zjP:Option (Int×List Tok)->Option Int
 |some (x,[])=>some x
 |_=>none
theorem zno{items:Bool}{l q:List Tok}{x:Int}(h:brS items l=some (x,q)):∃ pre,l=pre++q:=by
 cases l with
 |nil=>cases h
 |cons a r=>
  unfold brS at h
  simp only at h
  by_cases h2:a.1=2
  ·rw[if_pos h2] at h
   cases hc:zdQ r with
   |none=>rw[hc] at h;cases h
   |some pq=>
    obtain⟨p,q'⟩:=pq
    obtain⟨z,z1,z2,z3⟩:=xB hc
    have hq:q'=q:=by
     rw[hc] at h
     cases p with
     |nil=>cases items<;>simp only[cond_true,cond_false] at h<;>cases h<;>rfl
     |cons t p=>
      simp only at h
      cases hw:zt (fW items) orI 0 (t::p) with
      |none=>rw[hw] at h;cases h
      |some y=>rw[hw] at h;cases h;rfl
    rw[<- hq,z2]
    exact⟨a::p++[z],by simp⟩
  ·rw[if_neg h2] at h;cases h
theorem ztC{items:Bool}{s d:Tok}(hs:s.1≠3)(hd:d.1≠3)(hs2:s.1≠2):∀ (l:List Tok),brS items (l++[s,d])=(brS items l).map fun p=>(p.1,p.2++[s,d])
 | []=>by simp only[yh,brS,if_neg hs2,yn]
 |a::r=>by
  simp only[ye,brS]
  by_cases h2:a.1=2
  ·simp only[if_pos h2]
   cases hc:zdQ r with
   |none=>
    have:=zbL hc
    rw[zoL (l:=r++[s,d]) (fun t ht=>by
     rcases yY.1 ht with h|h
     ·exact this t h
     ·simp only[yA,List.not_mem_nil,or_false] at h
      rcases h with rfl|rfl
      ·exact hs
      ·exact hd)]
    rfl
   |some pq=>
    obtain⟨p,q⟩:=pq
    obtain⟨z,z1,z2,z3⟩:=xB hc
    rw[z2,show p++z::q++[s,d]=p++z::(q++[s,d]) from by simp,ziQ z1 z3]
    cases p with
    |nil=>cases items<;>rfl
    |cons t p=>
     simp only[Option.map_map]
     cases zt (fW items) orI 0 (t::p)<;>rfl
  ·simp only[if_neg h2,yn]
theorem zss{α:Type}(l:List α)(h:2<=l.length):∃ (a:α) (m:List α) (z:α),l=a::(m++[z]):=by
 cases l with
 |nil=>simp at h
 |cons a r=>
  cases r with
  |nil=>simp at h
  |cons b r=>exact⟨a,(b::r).dropLast,(b::r).getLast (by simp),by rw[List.dropLast_concat_getLast]⟩
theorem zrN(a:Tok)(m:List Tok)(z:Tok):nth uS1 (@yx Tok a (m++[z])) (m.length+1)=z:=by
 unfold nth
 simp
theorem zjb(items:Bool)(l:List Tok)(hl:l.length<=20000)(hk:∀ t ∈ l,qC t):WR (jC 200000 l items) (zjP (brS items l)):=by
 by_cases h2:l.length<2
 ·have e:decide ((((yb l):Nat):Int)<2)=true:=by simp;omega
  unfold jC
  simp only[e,cond_true]
  have:zjP (brS items l)=none:=by
   match l,h2 with
   | [],_=>rfl
   | [a],_=>
    unfold brS
    by_cases ha:a.1=2
    ·simp only[if_pos ha,zdQ];rfl
    ·simp only[if_neg ha];rfl
  rw[this];exact⟨_,rfl⟩
 ·obtain⟨a,m,z,rfl⟩:=zss l (by omega)
  have hlen:(a::(m++[z])).length=m.length+2:=by simp
  have hm2:m.length+2<=20000:=by rw[<- hlen];exact hl
  have e1:decide ((((yb (a::(m++[z]))):Nat):Int)<2)=false:=by rw[hlen];simp;omega
  have e2:yo .i64 ((((yb (a::(m++[z]))):Nat):Int)-1)=((m.length+1:Nat):Int):=by rw[hlen,wri (by omega) (by omega)];omega
  have e3:inb ((m.length+1:Nat):Int) (yb (a::(m++[z])))=true:=zZ (by rw[hlen];omega)
  have e4:=qn (a:=1) (b:=m.length+1) (n:=(a::(m++[z])).length) (by omega) (by rw[hlen];omega)
  rw[show((1:Nat):Int)=(1:Int) from rfl] at e4
  have e5:slice (a::(m++[z])) 1 (m.length+1)=m:=by unfold slice;simp
  have e6:((((yb (a::(m++[z]))):Nat):Int)==(2:Int))=decide (m=[]):=by
   rw[hlen]
   cases m with
   |nil=>rfl
   |cons b m=>
    have:((((b::m).length+2:Nat):Int)==(2:Int))=false:=by simp;omega
    rw[this];simp
  unfold jC
  simp only[e1,cond_false,ja,cond_true,jb,e2,e3,yj,zrN,e4,e5,e6,yf]
  simp only[brS]
  by_cases ha:a.1=2
  ·have b1:(a.1 != (2:Int))=false:=by simpa using ha
   simp only[b1,cond_false,if_pos ha]
   by_cases hz:z.1=3
   ·have b2:(z.1 != (3:Int))=false:=by simpa using hz
    simp only[b2,cond_false]
    by_cases hm:∀ t ∈ m,t.1≠3
    ·rw[show m++[z]=m++z::[] from rfl,ziQ hz hm]
     cases m with
     |nil=>cases items<;>first|exact⟨_,rfl⟩|rfl
     |cons b m=>
      have hw:=ze5 items (b::m) (by omega) (fun t ht=>hk t (yg _ (yz _ ht)))
      simp only[show decide ((b::m)=[])=false from rfl,cond_false]
      cases hs:zt (fW items) orI 0 (b::m) with
      |some x=>
       rw[hs] at hw
       simp only[WR] at hw
       rw[hw];rfl
      |none=>
       rw[hs] at hw
       obtain⟨v,hv⟩:=hw
       rw[hv];exact⟨_,rfl⟩
    ·have hcn:∃ p q,zdQ (m++[z])=some (p,q)/\q≠[]:=by
      cases hc:zdQ m with
      |none=>exact absurd (zbL hc) hm
      |some pq=>
       obtain⟨p,q⟩:=pq
       obtain⟨y,y1,y2,y3⟩:=xB hc
       refine⟨p,q++[z],?_,by simp⟩
       rw[y2,show p++y::q++[z]=p++y::(q++[z]) from by simp,ziQ y1 y3]
     obtain⟨p,q,c1,c2⟩:=hcn
     have hn:zt (fW items) orI 0 m=none:=by
      cases hs:zt (fW items) orI 0 m with
      |none=>rfl
      |some x=>exact absurd (zhz hs) hm
     have hmne:decide (m=[])=false:=by
      cases m with
      |nil=>exact absurd (fun t ht=>by cases ht) hm
      |cons b m=>simp
     have hw:=ze5 items m (by omega) (fun t ht=>hk t (yg _ (yz _ ht)))
     rw[hn] at hw
     obtain⟨v,hv⟩:=hw
     have ho:∀ o:Option Int,zjP (o.map fun x=>(x,q))=none:=by
      intro o
      cases o with
      |none=>rfl
      |some x=>cases q with
       |nil=>exact absurd rfl c2
       |cons c q=>rfl
     rw[c1,hmne,cond_false,hv]
     cases p with
     |nil=>
      cases items with
      |true=>exact⟨_,rfl⟩
      |false=>
       simp only[cond_false]
       rw[show(some ((0:Int),q))=(some (0:Int)).map (fun x=>(x,q)) from rfl,ho]
       exact⟨_,rfl⟩
     |cons t p=>
      simp only
      rw[ho]
      exact⟨_,rfl⟩
   ·have b2:(z.1 != (3:Int))=true:=by simpa using hz
    simp only[b2,cond_true]
    have:zjP (match zdQ (m++[z]) with
      |none=>none
      |some ([],q)=>cond items none (some (0,q))
      |some (t::p,q)=>(zt (fW items) orI 0 (t::p)).map fun x=>(x,q))=none:=by
     cases hc:zdQ (m++[z]) with
     |none=>rfl
     |some pq=>
      obtain⟨p,q⟩:=pq
      obtain⟨y,y1,y2,y3⟩:=xB hc
      cases q with
      |nil=>
       have:=(yV (show m++[z]=p++[y] from y2) rfl).2
       cases this
       exact absurd y1 hz
      |cons c q=>
       cases p with
       |nil=>cases items<;>rfl
       |cons t p=>
        simp only
        cases zt (fW items) orI 0 (t::p)<;>rfl
    rw[this]
    exact⟨_,rfl⟩
  ·have b1:(a.1 != (2:Int))=true:=by simpa using ha
   simp only[b1,cond_true,if_neg ha]
   exact⟨_,rfl⟩
def cA(tag:List UInt8)(k:Int)(m:List UInt8)(f:UInt8)(d:List UInt8):El uS2:=(tag,(k,(m,([],(0,(0,(false,(f,d))))))))
def zhD:List Tok->Option (UInt8×List UInt8)
 | []=>none
 | [d]=>if d.1=6 then some (0,d.2.1) else none
 |a::b::r=>match brS false (a::b::r) with
  |some (x,[s,d])=>if s.1=1/\d.1=6 then some (zbv x,d.2.1) else none
  |_=>none
theorem zrn{α:Type}(l:List α)(h:2<=l.length):∃ (m:List α) (s d:α),l=m++[s,d]:=by
 refine⟨l.take (l.length-2),l[l.length-2],l[l.length-1],?_⟩
 have h1:l.drop (l.length-2)=[l[l.length-2],l[l.length-1]]:=by
  rw[yP (by omega)]
  congr 1
  rw[yP (by omega)]
  congr 1
  ·congr 1;omega
  ·rw[yq (by omega)]
 rw[<- h1,List.take_append_drop]
theorem zmB{l:List Tok}{s d:Tok}:zhD (l++[s,d])=match brS false (l++[s,d]) with
  |some (x,[s,d])=>if s.1=1/\d.1=6 then some (zbv x,d.2.1) else none
  |_=>none:=by
 match l with
 | []=>rfl
 | [a]=>rfl
 |a::b::l=>rfl
theorem ziI{l:List Tok}{s d:Tok}(h:¬ (s.1=1/\d.1=6)):zhD (l++[s,d])=none:=by
 rw[zmB]
 split
 ·rename_i x s' d' hb
  obtain⟨pre,hp⟩:=zno hb
  have:=(yV hp rfl).2
  cases this
  rw[if_neg h]
 ·rfl
theorem zjT{l:List Tok}{s d:Tok}(hs:s.1=1)(hd:d.1=6):zhD (l++[s,d])=(zjP (brS false l)).map fun x=>(zbv x,d.2.1):=by
 rw[zmB,ztC (by omega) (by omega) (by omega)]
 cases hb:brS false l with
 |none=>rfl
 |some pq=>
  obtain⟨x,q⟩:=pq
  cases q with
  |nil=>
   simp only[ym,yh,zjP]
   rw[if_pos ⟨hs,hd⟩]
  |cons c q=>
   simp only[ym,ye,zjP]
   cases q with
   |nil=>rfl
   |cons c2 q=>cases q<;>rfl
theorem zty(tag:List UInt8)(k:Int)(m:List UInt8)(l:List Tok)(hl:l.length<=20000)(hk:∀ t ∈ l,qC t):match zhD l with
  |some (f,d)=>jf 200000 (cA tag k m 0 []) l=some (cA tag k m f d,true,())
  |none=>∃ c,jf 200000 (cA tag k m 0 []) l=some (c,false,()):=by
 by_cases h2:2<=l.length
 ·obtain⟨l',s,d,rfl⟩:=zrn l h2
  have hlen:(l'++[s,d]).length=l'.length+2:=by simp
  have hl2:l'.length+2<=20000:=by rw[<- hlen];exact hl
  have hks:=hk s (by simp)
  have hkd:=hk d (by simp)
  have e0:((((yb (l'++[s,d])):Nat):Int)==(0:Int))=false:=by rw[hlen];simp;omega
  have e1:((((yb (l'++[s,d])):Nat):Int)==(1:Int))=false:=by rw[hlen];simp;omega
  have e2:yo .i64 ((((yb (l'++[s,d])):Nat):Int)-1)=((l'.length+1:Nat):Int):=by rw[hlen,wri (by omega) (by omega)];omega
  have e3:yo .i64 ((((yb (l'++[s,d])):Nat):Int)-2)=((l'.length:Nat):Int):=by rw[hlen,wri (by omega) (by omega)];omega
  have e4:inb ((l'.length+1:Nat):Int) (yb (l'++[s,d]))=true:=zZ (by rw[hlen];omega)
  have e5:inb ((l'.length:Nat):Int) (yb (l'++[s,d]))=true:=zZ (by rw[hlen];omega)
  have e6:nth uS1 (l'++[s,d]) (l'.length+1)=d:=by unfold nth;simp
  have e7:nth uS1 (l'++[s,d]) l'.length=s:=by unfold nth;simp
  have e8:=qn (a:=0) (b:=l'.length) (n:=(l'++[s,d]).length) (by omega) (by rw[hlen];omega)
  rw[show((0:Nat):Int)=(0:Int) from rfl] at e8
  have e9:slice (l'++[s,d]) 0 l'.length=l':=by rw[ql];simp
  have eb:=xH (n:=d.2.1.length) (by have:=hkd.2.1;omega)
  have hw:=zjb false l' (by omega) (fun t ht=>hk t (yz _ ht))
  unfold jf
  simp only[e0,cond_false,e2,e4,cond_true,yj,e6,eb,e1,e3,e8,yf,e9]
  by_cases hd:d.1=6
  ·have d6:(d.1 != (6:Int))=false:=by simpa using hd
   simp only[d6,cond_false]
   cases ho:zjP (brS false l') with
   |none=>
    rw[ho] at hw
    obtain⟨v,hv⟩:=hw
    have:zhD (l'++[s,d])=none:=by
     by_cases hs:s.1=1
     ·rw[zjT hs hd,ho];rfl
     ·exact ziI (fun h=>hs h.1)
    rw[this,hv]
    exact⟨_,rfl⟩
   |some x=>
    rw[ho] at hw
    simp only[WR] at hw
    rw[hw]
    simp only[ya,cond_true,e5,e7]
    by_cases hs:s.1=1
    ·have s1:(s.1==(1:Int))=true:=by rw[beq_iff_eq];exact hs
     rw[zjT hs hd,ho,s1]
     rfl
    ·have s1:(s.1==(1:Int))=false:=by simpa using hs
     rw[ziI (fun h=>hs h.1),s1]
     exact⟨_,rfl⟩
  ·have d6:(d.1 != (6:Int))=true:=by simpa using hd
   rw[ziI (fun h=>hd h.2)]
   simp only[d6,cond_true]
   exact⟨_,rfl⟩
 ·match l,h2 with
  | [],_=>exact⟨_,rfl⟩
  | [d],_=>
   have hkd:=hk d (by simp)
   have eb:=xH (n:=d.2.1.length) (by have:=hkd.2.1;omega)
   have e0:((((yb [d]):Nat):Int)==(0:Int))=false:=rfl
   have e1:((((yb [d]):Nat):Int)==(1:Int))=true:=rfl
   have e2:yo .i64 ((((yb [d]):Nat):Int)-1)=0:=rfl
   unfold jf zhD
   simp only[e0,cond_false,e2,ja,cond_true,show yG 0=0 from rfl,jb,eb,e1]
   by_cases hd:d.1=6
   ·have d6:(d.1 != (6:Int))=false:=by simpa using hd
    simp only[d6,cond_false,if_pos hd]
    rfl
   ·have d6:(d.1 != (6:Int))=true:=by simpa using hd
    simp only[d6,cond_true,if_neg hd]
    exact⟨_,rfl⟩
  |a::b::l,h=>exact absurd (by simp) h
def wF:List UInt8:=[70,76,65,71,83]
def wP:List UInt8:=[43,70,76,65,71,83]
def wM:List UInt8:=[45,70,76,65,71,83]
def wS:List UInt8:=[46,83,73,76,69,78,84]
def mW(w:List UInt8)(b:Bool):Option (Int×Bool):=cond (w==wF) (some (0,b)) (cond (w==wP) (some (1,b)) (cond (w==wM) (some (2,b)) none))
def zlX(u:List UInt8):Option (Int×Bool):=if 7<=u.length/\u.drop (u.length-7)=wS then mW (u.take (u.length-7)) true else mW u false
def zji(s:List UInt8):Option (Int×Bool):=zlX (s.map up)
def znJ(o:Option (Int×Bool)):Option (Int×Bool×Unit):=some (match o with
 |some (m,b)=>(m,b,())
 |none=>(-1,false,()))
theorem zud(w:List UInt8)(b:Bool):(cond (w==([70,76,65,71,83]:List UInt8)) (some ((0:Int),b,())) (cond (w==([43,70,76,65,71,83]:List UInt8)) (some ((1:Int),b,())) (cond (w==([45,70,76,65,71,83]:List UInt8)) (some ((2:Int),b,())) (some ((-1:Int),false,())))))=znJ (mW w b):=by
 unfold mW wF wP wM
 cases w==([70,76,65,71,83]:List UInt8)<;>cases w==([43,70,76,65,71,83]:List UInt8)<;>cases w==([45,70,76,65,71,83]:List UInt8)<;>rfl
theorem zrD(s:List UInt8)(hs:s.length<=20000):zbb 200000 s=znJ (zji s):=by
 unfold zbb zji
 rw[zcl s hs]
 have hl:(s.map up).length<=20000:=by rw[yC];exact hs
 generalize s.map up=u at hl |-
 simp only[ya]
 simp only[zud]
 unfold zlX
 by_cases h7:7<u.length
 ·have e1:decide ((7:Int)<(((yb u):Nat):Int))=true:=by simp;omega
  have e2:yo .i64 ((((yb u):Nat):Int)-7)=((u.length-7:Nat):Int):=by rw[wri (by omega) (by omega)];omega
  have e3:=qn (a:=u.length-7) (b:=u.length) (n:=u.length) (by omega) (by omega)
  have e4:=qn (a:=0) (b:=u.length-7) (n:=u.length) (by omega) (by omega)
  rw[show((0:Nat):Int)=(0:Int) from rfl] at e4
  simp only[e1,cond_true,e2,e3,e4,yj,zap,ql]
  by_cases hw:u.drop (u.length-7)=wS
  ·have e5:(u.drop (u.length-7)==([46,83,73,76,69,78,84]:List UInt8))=true:=by rw[beq_iff_eq];exact hw
   rw[e5,cond_true,if_pos ⟨by omega,hw⟩]
  ·have e5:(u.drop (u.length-7)==([46,83,73,76,69,78,84]:List UInt8))=false:=by
    cases e:u.drop (u.length-7)==([46,83,73,76,69,78,84]:List UInt8) with
    |false=>rfl
    |true=>rw[beq_iff_eq] at e;exact absurd e hw
   rw[e5,cond_false,if_neg (fun h=>hw h.2)]
 ·have e1:decide ((7:Int)<(((yb u):Nat):Int))=false:=by simp;omega
  simp only[e1,cond_false]
  by_cases h:7<=u.length/\u.drop (u.length-7)=wS
  ·rw[if_pos h]
   have e:u.length-7=0:=by omega
   have hu:u=wS:=by have:=h.2;rw[e] at this;exact this
   rw[hu];rfl
  ·rw[if_neg h]
theorem ztX(u:List UInt8):zl 200000 200000 [([70,76,65,71,83]:List UInt8),([43,70,76,65,71,83]:List UInt8),([45,70,76,65,71,83]:List UInt8)] u 3 0=(cond (u==([70,76,65,71,83]:List UInt8)) (some (.inl 0)) (cond (u==([43,70,76,65,71,83]:List UInt8)) (some (.inl 1)) (cond (u==([45,70,76,65,71,83]:List UInt8)) (some (.inl 2)) (some (.inr ()))))):=by kernel_rfl
theorem ztW(w:List UInt8)(b:Bool):∃ i:Int,zp 200000 [([70,76,65,71,83]:List UInt8),([43,70,76,65,71,83]:List UInt8),([45,70,76,65,71,83]:List UInt8)] w=some (i,())/\(match mW w b with
  |some (m,b')=>i=m/\b'=b/\0<=i
  |none=>i=-1):=by
 unfold zp
 rw[show zl 200000 200000 [([70,76,65,71,83]:List UInt8),([43,70,76,65,71,83]:List UInt8),([45,70,76,65,71,83]:List UInt8)] w (((yb ([([70,76,65,71,83]:List UInt8),([43,70,76,65,71,83]:List UInt8),([45,70,76,65,71,83]:List UInt8)]:List (List UInt8))):Nat):Int) 0=_ from ztX w]
 unfold mW wF wP wM
 cases w==([70,76,65,71,83]:List UInt8) with
 |true=>exact⟨0,rfl,rfl,rfl,by omega⟩
 |false=>
  cases w==([43,70,76,65,71,83]:List UInt8) with
  |true=>exact⟨1,rfl,rfl,rfl,by omega⟩
  |false=>
   cases w==([45,70,76,65,71,83]:List UInt8) with
   |true=>exact⟨2,rfl,rfl,rfl,by omega⟩
   |false=>exact⟨-1,rfl,rfl⟩
theorem zkB(u:List UInt8)(hl:u.length<=20000):∃ (w:List UInt8) (b:Bool) (i:Int),z7 200000 u ([46,83,73,76,69,78,84]:List UInt8)=some (w,b,())/\zp 200000 [([70,76,65,71,83]:List UInt8),([43,70,76,65,71,83]:List UInt8),([45,70,76,65,71,83]:List UInt8)] w=some (i,())/\(match zlX u with
  |some (m,b')=>i=m/\b'=b/\0<=i
  |none=>i=-1):=by
 unfold z7 qv qw zlX
 by_cases h7:7<=u.length
 ·have e1:decide ((((yb ([46,83,73,76,69,78,84]:List UInt8)):Nat):Int)<=(((yb u):Nat):Int))=true:=by simp;omega
  have e2:yo .i64 ((((yb u):Nat):Int)-(((yb ([46,83,73,76,69,78,84]:List UInt8)):Nat):Int))=((u.length-7:Nat):Int):=by
   rw[show(((yb ([46,83,73,76,69,78,84]:List UInt8)):Nat):Int)=7 from rfl,wri (by omega) (by omega)];omega
  have e3:=qn (a:=u.length-7) (b:=u.length) (n:=u.length) (by omega) (by omega)
  have e4:=qn (a:=0) (b:=u.length-7) (n:=u.length) (by omega) (by omega)
  rw[show((0:Nat):Int)=(0:Int) from rfl] at e4
  simp only[e1,cond_true,e2,e3,e4,yj,zap,ql,ya]
  by_cases hw:u.drop (u.length-7)=wS
  ·have e5:(u.drop (u.length-7)==([46,83,73,76,69,78,84]:List UInt8))=true:=by rw[beq_iff_eq];exact hw
   rw[e5,if_pos ⟨h7,hw⟩]
   simp only[yd,cond_false,ya]
   obtain⟨i,h1,h2⟩:=ztW (u.take (u.length-7)) true
   exact⟨_,_,i,rfl,h1,h2⟩
  ·have e5:(u.drop (u.length-7)==([46,83,73,76,69,78,84]:List UInt8))=false:=by
    cases e:u.drop (u.length-7)==([46,83,73,76,69,78,84]:List UInt8) with
    |false=>rfl
    |true=>rw[beq_iff_eq] at e;exact absurd e hw
   rw[e5,if_neg (fun h=>hw h.2)]
   simp only[yc,cond_true,ya]
   obtain⟨i,h1,h2⟩:=ztW u false
   exact⟨_,_,i,rfl,h1,h2⟩
 ·have e1:decide ((((yb ([46,83,73,76,69,78,84]:List UInt8)):Nat):Int)<=(((yb u):Nat):Int))=false:=by simp;omega
  rw[if_neg (fun h=>h7 h.1)]
  simp only[e1,cond_false,ya,yc,cond_true]
  obtain⟨i,h1,h2⟩:=ztW u false
  exact⟨_,_,i,rfl,h1,h2⟩

def ziX(tag:List UInt8):El uS2:=(tag,(0,([],([],(0,(0,(false,(0,[]))))))))
def zm2(tag:List UInt8)(o:Option (El uS2)):Option ((El uS2)×Bool×Unit):=some (match o with
 |some c=>(c,true,())
 |none=>(ziX tag,false,()))
def cI(tag:List UInt8)(k:Int)(st:List (Int×Int))(x:Int):El uS2:=(tag,(k,([],(st,(x,(0,(false,(0,[]))))))))
def cS(tag:List UInt8)(k:Int)(st:List (Int×Int))(m:Int)(b:Bool)(f:UInt8):El uS2:=(tag,(k,([],(st,(0,(m,(b,(f,[]))))))))
def tk{A:Type}(k:Int)(l:List Tok)(f:Tok->List Tok->Option A):Option A:=match l with
 | []=>none
 |t::r=>if t.1=k then f t r else none
def tkM{A:Type}(l:List Tok)(f:Tok->List Tok->Option A):Option A:=match l with
 | []=>none
 |t::r=>if zh0 t=true then f t r else none
def tkE{A:Type}(l:List Tok)(x:A):Option A:=match l with
 | []=>some x
 |_::_=>none
theorem eqT{a b:Int}(h:a=b):(a==b)=true:=by rw[beq_iff_eq];exact h
theorem eqF{a b:Int}(h:¬ a=b):(a==b)=false:=by simpa using h
theorem neT{a b:Int}(h:¬ a=b):(a != b)=true:=by simpa using h
theorem neF{a b:Int}(h:a=b):(a != b)=false:=by simpa using h
theorem ztl(tag:List UInt8)(kd:Int)(e:Tok)(he:e.1=0)(r:List Tok)(hk:∀ t ∈ r,qC t):B1 200000 tag kd (r++[e])=zm2 tag (tkE r (cA tag kd [] 0 [])):=by
 cases r with
 |nil=>
  simp only[yh]
  unfold B1
  simp only[ja,cond_true,cond_false,zN,jb,ya,zn,yf,yd,eqT he]
  rfl
 |cons t r=>
  have h0:¬ t.1=0:=by have:=(hk t (yi ..)).1;omega
  simp only[ye]
  unfold B1
  simp only[ja,cond_true,zN,jb,ya,zn,yf,yc,eqF h0]
  rfl
theorem ztv(tag:List UInt8)(kd:Int)(mb:List UInt8)(e:Tok)(he:e.1=0)(r:List Tok)(hk:∀ t ∈ r,qC t):E5 200000 tag kd mb (r++[e])=zm2 tag (tkE r (cA tag kd mb 0 [])):=by
 cases r with
 |nil=>
  simp only[yh]
  unfold E5
  simp only[ja,cond_true,cond_false,zN,jb,ya,zn,yf,yd,eqT he]
  rfl
 |cons t r=>
  have h0:¬ t.1=0:=by have:=(hk t (yi ..)).1;omega
  simp only[ye]
  unfold E5
  simp only[ja,cond_true,zN,jb,ya,zn,yf,yc,eqF h0]
  rfl
def zoR(tag:List UInt8)(kd:Int)(mb:List UInt8)(f:UInt8)(q:List Tok):Option (El uS2):=match q with
 | [s,d]=>if s.1=1/\d.1=6 then some (cA tag kd mb f d.2.1) else none
 |_=>none
theorem zoj(tag:List UInt8)(kd:Int)(mb:List UInt8)(f:UInt8)(e:Tok)(he:e.1=0)(z:Tok)(hz:z.1=3)(q:List Tok)(hk:∀ t ∈ q,qC t):G6 200000 tag tag kd mb f (z::(q++[e]))=zm2 tag (zoR tag kd mb f q):=by
 have f1:¬ e.1=1:=by omega
 have f6:¬ e.1=6:=by omega
 unfold G6
 simp only[ja,cond_true,cond_false,zN,jb,ya,zr,zn,yf,yd,eqT hz]
 match q,hk with
 | [],_=>simp only[ja,cond_true,jb,zr,zn,yc,yh,eqF f1];rfl
 | [s],_=>
  by_cases h1:s.1=1
  ·simp only[ja,cond_true,cond_false,jb,zr,zn,yd,yc,ye,yh,eqT h1,eqF f6];rfl
  ·simp only[ja,cond_true,jb,zr,zn,yc,ye,yh,eqF h1];rfl
 | [s,d],hk=>
  have eb:=xH (n:=d.2.1.length) (by have:=(hk d (by simp)).2.1;omega)
  by_cases h1:s.1=1
  ·by_cases h6:d.1=6
   ·simp only[ja,cond_true,cond_false,jb,zr,zn,yd,ye,yh,eqT h1,eqT h6,eqT he,eb,zoR,if_pos (And.intro h1 h6)];rfl
   ·simp only[ja,cond_true,cond_false,jb,zr,zn,yd,yc,ye,yh,eqT h1,eqF h6,zoR,if_neg (fun h:s.1=1/\d.1=6=>h6 h.2)];rfl
  ·simp only[ja,cond_true,jb,zr,zn,yc,ye,yh,eqF h1,zoR,if_neg (fun h:s.1=1/\d.1=6=>h1 h.1)];rfl
 |s::d::t::q,hk=>
  have eb:=xH (n:=d.2.1.length) (by have:=(hk d (by simp)).2.1;omega)
  have h0:¬ t.1=0:=by have:=(hk t (by simp)).1;omega
  by_cases h1:s.1=1
  ·by_cases h6:d.1=6
   ·simp only[ja,cond_true,cond_false,jb,zr,zn,yd,yc,ye,eqT h1,eqT h6,eqF h0,eb,zoR];rfl
   ·simp only[ja,cond_true,cond_false,jb,zr,zn,yd,yc,ye,eqT h1,eqF h6,zoR];rfl
  ·simp only[ja,cond_true,jb,zr,zn,yc,ye,eqF h1,zoR];rfl
theorem zmI(tag:List UInt8)(kd:Int)(mb:List UInt8)(x:Int)(q:List Tok):((match some (x,q) with
  |some (x,[s,d])=>if s.1=1/\d.1=6 then some (zbv x,d.2.1) else none
  |_=>none:Option (UInt8×List UInt8)).map fun p=>cA tag kd mb p.1 p.2)=zoR tag kd mb (zbv x) q:=by
 match q with
 | []=>rfl
 | [s]=>rfl
 | [s,d]=>
  unfold zoR
  by_cases h:s.1=1/\d.1=6
  ·simp only[if_pos h,ym]
  ·simp only[if_neg h,yn]
 |s::d::t::q=>rfl
theorem zq7(tag:List UInt8)(kd:Int)(mb:List UInt8)(a:Tok)(h2:a.1=2)(r:List Tok):((zhD (a::r)).map fun p=>cA tag kd mb p.1 p.2)=match zdQ r with
  |none=>none
  |some ([],q)=>zoR tag kd mb 0 q
  |some (t::p,q)=>(zt (fW false) orI 0 (t::p)).bind fun x=>zoR tag kd mb (zbv x) q:=by
 cases r with
 |nil=>
  have h6:¬ a.1=6:=by omega
  simp only[zhD,if_neg h6,zdQ,yn]
 |cons b r=>
  unfold zhD brS
  simp only[if_pos h2]
  cases hc:zdQ (b::r) with
  |none=>rfl
  |some pq=>
   obtain⟨p,q⟩:=pq
   cases p with
   |nil=>simp only[cond_false];exact zmI tag kd mb 0 q
   |cons t p=>
    simp only
    cases zt (fW false) orI 0 (t::p) with
    |none=>rfl
    |some x=>simp only[ym,ya];exact zmI tag kd mb x q
theorem zmN(r:List Tok)(e:Tok):∃ t r',r++[e]=t::r'/\(t=e\/t ∈ r):=by
 cases r with
 |nil=>exact⟨e,[],rfl,.inl rfl⟩
 |cons t r=>exact⟨t,r++[e],rfl,.inr (yi ..)⟩
theorem ztr(tag:List UInt8)(kd:Int)(mb:List UInt8)(e:Tok)(he:e.1=0)(r:List Tok)(hl:r.length<=20000)(hk:∀ t ∈ r,qC t):D6 200000 tag kd mb (r++[e])=zm2 tag ((zhD r).map fun p=>cA tag kd mb p.1 p.2):=by
 have f2:¬ e.1=2:=by omega
 have f6:¬ e.1=6:=by omega
 have f3:¬ e.1=3:=by omega
 cases r with
 |nil=>
  simp only[yh]
  unfold D6
  simp only[ja,cond_true,cond_false,zN,jb,ya,zr,zn,yf,yc,eqF f2,eqF f6]
  rfl
 |cons a r=>
  have hkr:∀ t ∈ r,qC t:=fun t ht=>hk t (yg _ ht)
  by_cases h2:a.1=2
  ·rw[zq7 tag kd mb a h2 r]
   cases hc:zdQ r with
   |none=>
    have hn:=zbL hc
    have hl46:=zja tag kd mb e [] (.inl he) r 0 200000 (fun t ht=>⟨hkr t ht,hn t ht⟩) (by simp only[yk] at hl;omega)
    have:∃ y,zA 200000 200000 (r++[e]) tag kd mb 0=some (.inl y):=by
     cases hw:zt fP orP 0 r with
     |none=>rw[hw] at hl46;exact hl46
     |some x=>rw[hw] at hl46;exact hl46.2 f3
    obtain⟨y,hy⟩:=this
    obtain⟨t,r',hr,ht⟩:=zmN r e
    have ht3:¬ t.1=3:=by
     rcases ht with rfl|ht
     ·exact f3
     ·exact hn t ht
    simp only[ye]
    rw[hr] at hy |-
    unfold D6
    simp only[ja,cond_true,cond_false,zN,jb,ya,zr,zn,yf,yd,eqT h2,neT ht3,hy,zi]
    rfl
   |some pq=>
    obtain⟨p,q⟩:=pq
    obtain⟨z,z1,z2,z3⟩:=xB hc
    subst z2
    have hkq:∀ t ∈ q,qC t:=fun t ht=>hkr t (yI _ (yg _ ht))
    rw[show(a::(p++z::q))++[e]=a::(p++z::(q++[e])) from by simp]
    cases p with
    |nil=>
     unfold D6
     simp only[ja,cond_true,cond_false,zN,jb,ya,zr,zn,yf,yd,yh,eqT h2,neF z1,zoj tag kd mb _ e he z z1 q hkq]
    |cons t p=>
     have hl46:=zja tag kd mb z (q++[e]) (.inr z1) (t::p) 0 200000 (fun u hu=>⟨hkr u (yz _ hu),z3 u hu⟩) (by simp only[yk,yB] at hl |-;omega)
     obtain⟨o,o1,o2,o3⟩:=znj (t::p) 0 (by omega)
     rw[show yp 0=(0:UInt8) from rfl] at o3
     rw[show((0:Nat):Int)=(0:Int) from rfl] at o2
     have ht3:=z3 t (yi ..)
     unfold D6
     cases o with
     |none=>
      rw[o3] at hl46
      simp only[yn,ye] at hl46
      obtain⟨y,hy⟩:=hl46
      simp only[ja,cond_true,cond_false,zN,jb,ya,zr,zn,yf,yd,ye,eqT h2,neT ht3,hy,zi,o2,yn,yy]
      rfl
     |some n=>
      rw[o3] at hl46
      simp only[ym,ye] at hl46
      have hy:=hl46.1 z1
      have hn:=o1 n rfl
      simp only[ja,cond_true,cond_false,zN,jb,ya,zr,zn,yf,yd,ye,eqT h2,neT ht3,hy,zi,o2,ym,zoj tag kd mb _ e he z z1 q hkq,wJ (show n<256 by omega)]
  ·simp only[ye]
   unfold D6
   by_cases h6:a.1=6
   ·have eb:=xH (n:=a.2.1.length) (by have:=(hk a (by simp)).2.1;omega)
    cases r with
    |nil=>
     simp only[ja,cond_true,cond_false,zN,jb,ya,zr,zn,yf,yd,yc,yh,eqF h2,eqT h6,eb,eqT he,zhD,if_pos h6]
     rfl
    |cons b r=>
     have h0:¬ b.1=0:=by have:=(hkr b (by simp)).1;omega
     simp only[ja,cond_true,cond_false,zN,jb,ya,zr,zn,yf,yd,yc,ye,eqF h2,eqT h6,eb,eqF h0,zhD,brS,if_neg h2]
     rfl
   ·have hs:zhD (a::r)=none:=by
     cases r with
     |nil=>simp only[zhD,if_neg h6]
     |cons b r=>simp only[zhD,brS,if_neg h2]
    simp only[ja,cond_true,cond_false,zN,jb,ya,zr,zn,yf,yc,eqF h2,eqF h6,hs]
    rfl
theorem ztq(tag:List UInt8)(kd:Int)(mb:List UInt8)(e:Tok)(he:e.1=0)(r:List Tok)(hl:r.length<=20000)(hk:∀ t ∈ r,qC t):C6 200000 tag kd mb (r++[e])=zm2 tag (tk 1 r fun _ r=>(zhD r).map fun p=>cA tag kd mb p.1 p.2):=by
 have f1:¬ e.1=1:=by omega
 cases r with
 |nil=>
  simp only[yh]
  unfold C6
  simp only[ja,cond_true,zN,jb,ya,zr,zn,yf,yc,eqF f1]
  rfl
 |cons s r=>
  simp only[ye]
  unfold C6
  by_cases h1:s.1=1
  ·simp only[ja,cond_true,cond_false,zN,jb,ya,zr,zn,yf,yd,eqT h1,tk,if_pos h1]
   exact ztr tag kd mb e he r (by simp only[yk] at hl;omega) (fun t ht=>hk t (yg _ ht))
  ·simp only[ja,cond_true,zN,jb,ya,zr,zn,yf,yc,eqF h1,tk,if_neg h1]
   rfl
theorem ztm(tag:List UInt8)(kd:Int)(e:Tok)(he:e.1=0)(r:List Tok)(hl:r.length<=20000)(hk:∀ t ∈ r,qC t):B5 200000 tag kd (r++[e])=zm2 tag (tk 1 r fun _ r=>tkM r fun m r=>tkE r (cA tag kd m.2.1 0 [])):=by
 have f1:¬ e.1=1:=by omega
 have f4:¬ e.1=4:=by omega
 have f5:¬ e.1=5:=by omega
 have f6:¬ e.1=6:=by omega
 cases r with
 |nil=>
  simp only[yh]
  unfold B5
  simp only[ja,cond_true,zN,zhG,jb,ya,zr,zn,yf,yc,eqF f1]
  rfl
 |cons s r=>
  simp only[ye]
  unfold B5
  by_cases h1:s.1=1
  ·cases r with
   |nil=>
    simp only[ja,cond_true,cond_false,zN,zhG,jb,ya,zr,zn,yf,yd,yc,Bool.or_false,yh,eqT h1,eqF f4,eqF f5,eqF f6,tk,if_pos h1]
    rfl
   |cons m r=>
    have hkm:=hk m (by simp)
    have hkr:∀ t ∈ r,qC t:=fun t ht=>hk t (yg _ (yg _ ht))
    have hlr:r.length<=20000:=by simp only[yk] at hl;omega
    have hC:=fun mb=>ztv tag kd mb e he r  hkr
    by_cases h4:m.1=4
    ·have hne:(m.2.1 != ([]:List UInt8))=true:=by simpa using(hkm.2.2 h4).1
     have hb:=zsE 200000 m.2.1 (by have:=hkm.2.1;omega) 200000 0 (by omega) (by have:=hkm.2.1;omega)
     rw[show((0:Nat):Int)=(0:Int) from rfl,yw] at hb
     have hS:zh0 m=m.2.1.all zeS:=by unfold zh0;rw[if_pos h4]
     simp only[ja,cond_true,cond_false,zN,zhG,jb,ya,zr,zn,yf,yd,Bool.true_or,ye,eqT h1,eqT h4,neF h4,hne,hb,tk,if_pos h1,tkM,hS]
     cases m.2.1.all zeS with
     |true=>simp only[if_true,zi,hC]
     |false=>
      simp only[yu,if_false,zi]
      rfl
    ·have hS:zh0 m=(m.1==5||m.1==6):=by unfold zh0;rw[if_neg h4]
     simp only[ja,cond_true,cond_false,zN,zhG,jb,ya,zr,zn,yf,yd,Bool.false_or,ye,eqT h1,eqF h4,neT h4,tk,if_pos h1,tkM,hS]
     cases(m.1==(5:Int)||m.1==(6:Int)) with
     |true=>simp only[cond_false,yd,if_true,hC]
     |false=>
      simp only[cond_true,yc,yu,if_false]
      rfl
  ·simp only[ja,cond_true,zN,zhG,jb,ya,zr,zn,yf,yc,eqF h1,tk,if_neg h1]
   rfl
theorem ztn(tag:List UInt8)(kd:Int)(e:Tok)(he:e.1=0)(r:List Tok)(hl:r.length<=20000)(hk:∀ t ∈ r,qC t):B6 200000 tag kd (r++[e])=zm2 tag (tk 1 r fun _ r=>tkM r fun m r=>tk 1 r fun _ r=>(zhD r).map fun p=>cA tag kd m.2.1 p.1 p.2):=by
 have f1:¬ e.1=1:=by omega
 have f4:¬ e.1=4:=by omega
 have f5:¬ e.1=5:=by omega
 have f6:¬ e.1=6:=by omega
 cases r with
 |nil=>
  simp only[yh]
  unfold B6
  simp only[ja,cond_true,zN,zhG,jb,ya,zr,zn,yf,yc,eqF f1]
  rfl
 |cons s r=>
  simp only[ye]
  unfold B6
  by_cases h1:s.1=1
  ·cases r with
   |nil=>
    simp only[ja,cond_true,cond_false,zN,zhG,jb,ya,zr,zn,yf,yd,yc,Bool.or_false,yh,eqT h1,eqF f4,eqF f5,eqF f6,tk,if_pos h1]
    rfl
   |cons m r=>
    have hkm:=hk m (by simp)
    have hkr:∀ t ∈ r,qC t:=fun t ht=>hk t (yg _ (yg _ ht))
    have hlr:r.length<=20000:=by simp only[yk] at hl;omega
    have hC:=fun mb=>ztq tag kd mb e he r hlr hkr
    by_cases h4:m.1=4
    ·have hne:(m.2.1 != ([]:List UInt8))=true:=by simpa using(hkm.2.2 h4).1
     have hb:=zsF 200000 m.2.1 (by have:=hkm.2.1;omega) 200000 0 (by omega) (by have:=hkm.2.1;omega)
     rw[show((0:Nat):Int)=(0:Int) from rfl,yw] at hb
     have hS:zh0 m=m.2.1.all zeS:=by unfold zh0;rw[if_pos h4]
     simp only[ja,cond_true,cond_false,zN,zhG,jb,ya,zr,zn,yf,yd,Bool.true_or,ye,eqT h1,eqT h4,neF h4,hne,hb,tk,if_pos h1,tkM,hS]
     cases m.2.1.all zeS with
     |true=>simp only[if_true,zi,hC];rfl
     |false=>
      simp only[yu,if_false,zi]
      rfl
    ·have hS:zh0 m=(m.1==5||m.1==6):=by unfold zh0;rw[if_neg h4]
     simp only[ja,cond_true,cond_false,zN,zhG,jb,ya,zr,zn,yf,yd,Bool.false_or,ye,eqT h1,eqF h4,neT h4,tk,if_pos h1,tkM,hS]
     cases(m.1==(5:Int)||m.1==(6:Int)) with
     |true=>simp only[cond_false,yd,if_true,hC];rfl
     |false=>
      simp only[cond_true,yc,yu,if_false]
      rfl
  ·simp only[ja,cond_true,zN,zhG,jb,ya,zr,zn,yf,yc,eqF h1,tk,if_neg h1]
   rfl
def itS:List Tok->Option Int
 | []=>none
 | [w]=>if w.1=4 then(fW true w.2.1).map (orI 0) else none
 |a::b::r=>zjP (brS true (a::b::r))
theorem zrP(x:Int)(q:List Tok):zjP (some (x,q))=tkE q x:=by cases q<;>rfl
theorem ztV(a:Tok)(h2:a.1=2)(r:List Tok):itS (a::r)=match zdQ r with
  |none=>none
  |some (p,q)=>(zt (fW true) orI 0 p).bind fun x=>tkE q x:=by
 cases r with
 |nil=>
  have h4:¬ a.1=4:=by omega
  simp only[itS,if_neg h4,zdQ]
 |cons b r=>
  unfold itS brS
  simp only[if_pos h2]
  cases hc:zdQ (b::r) with
  |none=>rfl
  |some pq=>
   obtain⟨p,q⟩:=pq
   cases p with
   |nil=>rfl
   |cons t p=>
    simp only
    cases zt (fW true) orI 0 (t::p) with
    |none=>rfl
    |some x=>simp only[ym,ya,zrP]
theorem zts(tag:List UInt8)(kd:Int)(st:List (Int×Int))(e:Tok)(he:e.1=0)(r:List Tok)(hl:r.length<=20000)(hk:∀ t ∈ r,qC t):D7 200000 tag kd st (r++[e])=zm2 tag ((itS r).map fun x=>cI tag kd st x):=by
 have f2:¬ e.1=2:=by omega
 have f4:¬ e.1=4:=by omega
 have f3:¬ e.1=3:=by omega
 cases r with
 |nil=>
  simp only[yh]
  unfold D7
  simp only[ja,cond_true,zN,jb,ya,zr,zn,yf,yc,neT f2,eqF f4]
  rfl
 |cons a r=>
  have hkr:∀ t ∈ r,qC t:=fun t ht=>hk t (yg _ ht)
  by_cases h2:a.1=2
  ·rw[ztV a h2 r]
   cases hc:zdQ r with
   |none=>
    have hn:=zbL hc
    have hl144:=zg2 tag kd st 0 e [] (.inl he) r 0 200000 (fun t ht=>⟨hkr t ht,hn t ht⟩) (by simp only[yk] at hl;omega)
    have:∃ y,zy 200000 200000 (r++[e]) tag kd st 0 0=some (.inl y):=by
     cases hw:zt (fW true) orI 0 r with
     |none=>rw[hw] at hl144;exact hl144
     |some x=>rw[hw] at hl144;exact hl144.2 f3
    obtain⟨y,hy⟩:=this
    simp only[ye]
    unfold D7
    simp only[ja,cond_true,cond_false,zN,jb,ya,zr,zn,yf,yd,neF h2,eqT h2,hy,zi]
    rfl
   |some pq=>
    obtain⟨p,q⟩:=pq
    obtain⟨z,z1,z2,z3⟩:=xB hc
    subst z2
    have hkq:∀ t ∈ q,qC t:=fun t ht=>hkr t (yI _ (yg _ ht))
    rw[show(a::(p++z::q))++[e]=a::(p++z::(q++[e])) from by simp]
    have hl144:=zg2 tag kd st 0 z (q++[e]) (.inr z1) p 0 200000 (fun u hu=>⟨hkr u (yz _ hu),z3 u hu⟩) (by simp only[yk,yB] at hl |-;omega)
    unfold D7
    cases hw:zt (fW true) orI 0 p with
    |none=>
     rw[hw] at hl144
     obtain⟨y,hy⟩:=hl144
     simp only[ja,cond_true,cond_false,zN,jb,ya,zr,zn,yf,yd,neF h2,eqT h2,hy,zi,hw,yy]
     rfl
    |some x=>
     rw[hw] at hl144
     have hy:=hl144.1 z1
     cases q with
     |nil=>
      simp only[yh] at hy
      simp only[ja,cond_true,cond_false,zN,jb,ya,zr,zn,yf,yd,yh,neF h2,eqT h2,hy,zi,hw,eqT z1,eqT he]
      rfl
     |cons t q=>
      have h0:¬ t.1=0:=by have:=(hkq t (yi ..)).1;omega
      simp only[ye] at hy
      simp only[ja,cond_true,cond_false,zN,jb,ya,zr,zn,yf,yd,yc,ye,neF h2,eqT h2,hy,zi,hw,eqT z1,eqF h0]
      rfl
  ·have hka:=hk a (yi ..)
   have hi:=zi2 _ hka.2.1
   simp only[ye]
   unfold D7
   by_cases h4:a.1=4
   ·by_cases h0:zaN a.2.1=0
    ·have hd:decide (0<zaN a.2.1)=false:=by simp;omega
     have hs:itS (a::r)=none:=by
      cases r with
      |nil=>simp only[itS,if_pos h4,zlv h0,yn]
      |cons b r=>simp only[itS,brS,if_neg h2,zjP]
     simp only[ja,cond_true,cond_false,zN,jb,ya,zr,zn,yf,yd,yc,neT h2,eqT h4,zcX _ hka.2.1,hd,hs]
     rfl
    ·have hd:decide (0<zaN a.2.1)=true:=by simp;omega
     cases r with
     |nil=>
      simp only[ja,cond_true,cond_false,zN,jb,ya,zr,zn,yf,yd,yh,neT h2,eqT h4,zcX _ hka.2.1,hd,itS,if_pos h4,zlw h0,ym,eqT he]
      rfl
     |cons b r=>
      have hb0:¬ b.1=0:=by have:=(hkr b (yi ..)).1;omega
      have hs:itS (a::b::r)=none:=by simp only[itS,brS,if_neg h2,zjP]
      simp only[ja,cond_true,cond_false,zN,jb,ya,zr,zn,yf,yd,yc,ye,neT h2,eqT h4,zcX _ hka.2.1,hd,hs,eqF hb0]
      rfl
   ·have hs:itS (a::r)=none:=by
     cases r with
     |nil=>simp only[itS,if_neg h4]
     |cons b r=>simp only[itS,brS,if_neg h2,zjP]
    simp only[ja,cond_true,zN,jb,ya,zr,zn,yf,yc,neT h2,eqF h4,hs]
    rfl
theorem zok(tag:List UInt8)(kd:Int)(st:List (Int×Int))(md:Int)(sl:Bool)(f:UInt8)(e:Tok)(he:e.1=0)(z:Tok)(hz:z.1=3)(q:List Tok)(hk:∀ t ∈ q,qC t):G8 200000 tag tag kd st md sl f (z::(q++[e]))=zm2 tag (tkE q (cS tag kd st md sl f)):=by
 unfold G8
 cases q with
 |nil=>simp only[ja,cond_true,cond_false,zN,jb,ya,zr,zn,yf,yd,yh,eqT hz,eqT he];rfl
 |cons t q=>
  have h0:¬ t.1=0:=by have:=(hk t (yi ..)).1;omega
  simp only[ja,cond_true,cond_false,zN,jb,ya,zr,zn,yf,yd,yc,ye,eqT hz,eqF h0];rfl
def zoT(r:List Tok):Option UInt8:=(match zjP (brS false r) with
 |some x=>some x
 |none=>zt (fW false) orI 0 r).map zbv
theorem zoU(a:Tok)(h2:a.1=2)(r:List Tok):zoT (a::r)=match zdQ r with
  |none=>none
  |some ([],q)=>tkE q 0
  |some (t::p,q)=>(zt (fW false) orI 0 (t::p)).bind fun x=>tkE q (zbv x):=by
 have h4:¬ a.1=4:=by omega
 have hw:zt (fW false) orI 0 (a::r)=none:=by
  cases r with
  |nil=>simp only[zt,if_neg h4]
  |cons b r=>simp only[zt,if_neg h4]
 unfold zoT
 rw[hw]
 simp only[brS,if_pos h2]
 cases hc:zdQ r with
 |none=>rfl
 |some pq=>
  obtain⟨p,q⟩:=pq
  cases p with
  |nil=>cases q<;>rfl
  |cons t p=>
   simp only
   cases zt (fW false) orI 0 (t::p) with
   |none=>rfl
   |some x=>cases q<;>rfl
theorem zoV(r:List Tok)(h:brS false r=none):zoT r=(zt (fW false) orI 0 r).map zbv:=by
 unfold zoT
 rw[h];rfl
theorem zmx(tag:List UInt8)(kd:Int)(st:List (Int×Int))(md:Int)(sl:Bool)(e:Tok)(he:e.1=0)(r:List Tok)(hl:r.length<=20000)(hk:∀ t ∈ r,qC t)(hb:brS false r=none)(t:Tok)(r':List Tok)(hr:r++[e]=t::r')(h2:¬ t.1=2):D8 200000 tag kd st md sl (r++[e])=zm2 tag ((zoT r).map fun f=>cS tag kd st md sl f):=by
 rw[zoV r hb]
 have h206:=zkm tag kd st md sl e [] (.inl he) r 0 200000 (fun u hu=>⟨hk u hu,by have:=(hk u hu).1;omega⟩) (by omega)
 obtain⟨o,o1,o2,o3⟩:=znj r 0 (by omega)
 rw[show yp 0=(0:UInt8) from rfl] at o3
 rw[show((0:Nat):Int)=(0:Int) from rfl] at o2
 rw[hr] at h206 |-
 unfold D8
 cases o with
 |none=>
  rw[o3] at h206
  simp only[yn] at h206
  obtain⟨y,hy⟩:=h206
  simp only[ja,cond_true,cond_false,zN,jb,ya,zr,zn,yf,yc,eqF h2,hy,zi,o2,yn]
  rfl
 |some n=>
  rw[o3] at h206
  simp only[ym] at h206
  have hy:=h206.1 he
  have hn:=o1 n rfl
  simp only[ja,cond_true,cond_false,zN,jb,ya,zr,zn,yf,yd,yc,eqF h2,hy,zi,o2,ym,eqT he,wJ (show n<256 by omega)]
  rfl
theorem ztt(tag:List UInt8)(kd:Int)(st:List (Int×Int))(md:Int)(sl:Bool)(e:Tok)(he:e.1=0)(r:List Tok)(hl:r.length<=20000)(hk:∀ t ∈ r,qC t):D8 200000 tag kd st md sl (r++[e])=zm2 tag ((zoT r).map fun f=>cS tag kd st md sl f):=by
 have f2:¬ e.1=2:=by omega
 have f3:¬ e.1=3:=by omega
 cases r with
 |nil=>exact zmx tag kd st md sl e he [] (by simp) (fun _ h=>by cases h) rfl e [] rfl f2
 |cons a r=>
  have hkr:∀ t ∈ r,qC t:=fun t ht=>hk t (yg _ ht)
  by_cases h2:a.1=2
  ·rw[zoU a h2 r]
   cases hc:zdQ r with
   |none=>
    have hn:=zbL hc
    have hl179:=zg3 tag kd st md sl e [] (.inl he) r 0 200000 (fun t ht=>⟨hkr t ht,hn t ht⟩) (by simp only[yk] at hl;omega)
    have:∃ y,zz 200000 200000 (r++[e]) tag kd st md sl 0=some (.inl y):=by
     cases hw:zt fP orP 0 r with
     |none=>rw[hw] at hl179;exact hl179
     |some x=>rw[hw] at hl179;exact hl179.2 f3
    obtain⟨y,hy⟩:=this
    obtain⟨t,r',hr,ht⟩:=zmN r e
    have ht3:¬ t.1=3:=by
     rcases ht with rfl|ht
     ·exact f3
     ·exact hn t ht
    simp only[ye]
    rw[hr] at hy |-
    unfold D8
    simp only[ja,cond_true,cond_false,zN,jb,ya,zr,zn,yf,yd,eqT h2,neT ht3,hy,zi]
    rfl
   |some pq=>
    obtain⟨p,q⟩:=pq
    obtain⟨z,z1,z2,z3⟩:=xB hc
    subst z2
    have hkq:∀ t ∈ q,qC t:=fun t ht=>hkr t (yI _ (yg _ ht))
    rw[show(a::(p++z::q))++[e]=a::(p++z::(q++[e])) from by simp]
    cases p with
    |nil=>
     unfold D8
     simp only[ja,cond_true,cond_false,zN,jb,ya,zr,zn,yf,yd,yh,eqT h2,neF z1,zok tag kd st md sl _ e he z z1 q hkq]
     cases q<;>rfl
    |cons t p=>
     have hl179:=zg3 tag kd st md sl z (q++[e]) (.inr z1) (t::p) 0 200000 (fun u hu=>⟨hkr u (yz _ hu),z3 u hu⟩) (by simp only[yk,yB] at hl |-;omega)
     obtain⟨o,o1,o2,o3⟩:=znj (t::p) 0 (by omega)
     rw[show yp 0=(0:UInt8) from rfl] at o3
     rw[show((0:Nat):Int)=(0:Int) from rfl] at o2
     have ht3:=z3 t (yi ..)
     unfold D8
     cases o with
     |none=>
      rw[o3] at hl179
      simp only[yn,ye] at hl179
      obtain⟨y,hy⟩:=hl179
      simp only[ja,cond_true,cond_false,zN,jb,ya,zr,zn,yf,yd,ye,eqT h2,neT ht3,hy,zi,o2,yn,yy]
      rfl
     |some n=>
      rw[o3] at hl179
      simp only[ym,ye] at hl179
      have hy:=hl179.1 z1
      have hn:=o1 n rfl
      simp only[ja,cond_true,cond_false,zN,jb,ya,zr,zn,yf,yd,ye,eqT h2,neT ht3,hy,zi,o2,ym,zok tag kd st md sl _ e he z z1 q hkq,wJ (show n<256 by omega)]
      cases q<;>rfl
  ·exact zmx tag kd st md sl e he (a::r) hl hk (by simp only[brS,if_neg h2]) a (r++[e]) rfl h2
def zm5(s:List UInt8):Option (List (Int×Int)):=jW (qY 44 s)
theorem zk1(s:List UInt8)(hs:s.length<=20000):jT 200000 s=some (match zm5 s with
  |some l=>(l,true,())
  |none=>([],false,())):=zr1 s hs
theorem zr0(s:List UInt8)(hs:s.length<=20000):ko 200000 s=some (match zm5 s with
  |some l=>(l,true,())
  |none=>([],false,())):=zuG s hs
def SB7(tag:List UInt8)(kd:Int)(r:List Tok):Option (El uS2):=tk 1 r fun _ r=>tk 4 r fun t r=>(zm5 t.2.1).bind fun st=>tk 1 r fun _ r=>(itS r).map fun x=>cI tag kd st x
def SB8(tag:List UInt8)(kd:Int)(r:List Tok):Option (El uS2):=tk 1 r fun _ r=>tk 4 r fun t r=>(zm5 t.2.1).bind fun st=>tk 1 r fun _ r=>tk 4 r fun w r=>(zji w.2.1).bind fun mb=>tk 1 r fun _ r=>(zoT r).map fun f=>cS tag kd st mb.1 mb.2 f
theorem zto(tag:List UInt8)(kd:Int)(e:Tok)(he:e.1=0)(r:List Tok)(hl:r.length<=20000)(hk:∀ t ∈ r,qC t):B7 200000 tag kd (r++[e])=zm2 tag (SB7 tag kd r):=by
 have f1:¬ e.1=1:=by omega
 have f4:¬ e.1=4:=by omega
 unfold SB7
 cases r with
 |nil=>
  simp only[yh]
  unfold B7
  simp only[ja,cond_true,zN,jb,ya,zr,zn,yf,yc,eqF f1]
  rfl
 |cons s r=>
  simp only[ye]
  unfold B7
  by_cases h1:s.1=1
  ·cases r with
   |nil=>
    simp only[ja,cond_true,cond_false,zN,jb,ya,zr,zn,yf,yd,yc,yh,eqT h1,eqF f4,tk,if_pos h1]
    rfl
   |cons t r=>
    have hkt:=hk t (by simp)
    by_cases h4:t.1=4
    ·have hset:=zk1 t.2.1 hkt.2.1
     cases hs:zm5 t.2.1 with
     |none=>
      rw[hs] at hset
      simp only[ja,cond_true,cond_false,zN,jb,ya,zr,zn,yf,yd,yc,ye,eqT h1,eqT h4,hset,tk,if_pos h1,if_pos h4,hs,yy]
      rfl
     |some st=>
      rw[hs] at hset
      cases r with
      |nil=>
       simp only[ja,cond_true,cond_false,zN,jb,ya,zr,zn,yf,yd,yc,ye,yh,eqT h1,eqT h4,hset,eqF f1,tk,if_pos h1,if_pos h4,hs]
       rfl
      |cons s2 r=>
       have hkr:∀ t ∈ r,qC t:=fun u hu=>hk u (yg _ (yg _ (yg _ hu)))
       have hlr:r.length<=20000:=by simp only[yk] at hl;omega
       by_cases h5:s2.1=1
       ·simp only[ja,cond_true,cond_false,zN,jb,ya,zr,zn,yf,yd,ye,eqT h1,eqT h4,hset,eqT h5,tk,if_pos h1,if_pos h4,hs,if_pos h5]
        exact zts tag kd st e he r hlr hkr
       ·simp only[ja,cond_true,cond_false,zN,jb,ya,zr,zn,yf,yd,yc,ye,eqT h1,eqT h4,hset,eqF h5,tk,if_pos h1,if_pos h4,hs,if_neg h5]
        rfl
    ·simp only[ja,cond_true,cond_false,zN,jb,ya,zr,zn,yf,yd,yc,ye,eqT h1,eqF h4,tk,if_pos h1,if_neg h4]
     rfl
  ·simp only[ja,cond_true,zN,jb,ya,zr,zn,yf,yc,eqF h1,tk,if_neg h1]
   rfl
theorem ztp(tag:List UInt8)(kd:Int)(e:Tok)(he:e.1=0)(r:List Tok)(hl:r.length<=20000)(hk:∀ t ∈ r,qC t):B8 200000 tag kd (r++[e])=zm2 tag (SB8 tag kd r):=by
 have f1:¬ e.1=1:=by omega
 have f4:¬ e.1=4:=by omega
 unfold SB8
 cases r with
 |nil=>
  simp only[yh]
  unfold B8
  simp only[ja,cond_true,zN,jb,ya,zr,zn,yf,yc,eqF f1]
  rfl
 |cons s r=>
  simp only[ye]
  unfold B8
  by_cases h1:s.1=1
  ·cases r with
   |nil=>
    simp only[ja,cond_true,cond_false,zN,jb,ya,zr,zn,yf,yd,yc,yh,eqT h1,eqF f4,tk,if_pos h1]
    rfl
   |cons t r=>
    have hkt:=hk t (by simp)
    by_cases h4:t.1=4
    ·have hset:=zk1 t.2.1 hkt.2.1
     cases hs:zm5 t.2.1 with
     |none=>
      rw[hs] at hset
      simp only[ja,cond_true,cond_false,zN,jb,ya,zr,zn,yf,yd,yc,ye,eqT h1,eqT h4,hset,tk,if_pos h1,if_pos h4,hs,yy]
      rfl
     |some st=>
      rw[hs] at hset
      cases r with
      |nil=>
       simp only[ja,cond_true,cond_false,zN,jb,ya,zr,zn,yf,yd,yc,ye,yh,eqT h1,eqT h4,hset,eqF f1,tk,if_pos h1,if_pos h4,hs]
       rfl
      |cons s2 r=>
       have hkr:∀ t ∈ r,qC t:=fun u hu=>hk u (yg _ (yg _ (yg _ hu)))
       have hlr:r.length<=20000:=by simp only[yk] at hl;omega
       by_cases h5:s2.1=1
       ·simp only[ja,cond_true,cond_false,zN,jb,ya,zr,zn,yf,yd,ye,eqT h1,eqT h4,hset,eqT h5,tk,if_pos h1,if_pos h4,hs,if_pos h5]
        cases r with
        |nil=>
         simp only[ja,cond_true,jb,zr,zn,yc,yh,eqF f4]
         rfl
        |cons w r=>
         have hkw:=hkr w (by simp)
         by_cases h6:w.1=4
         ·have hup:=zdq w.2.1 hkw.2.1
          obtain⟨u,b,i,hcut,hix,hmo⟩:=zkB (w.2.1.map up) (by rw[yC];exact hkw.2.1)
          have hmS:zji w.2.1=zlX (w.2.1.map up):=rfl
          cases hm:zlX (w.2.1.map up) with
          |none=>
           rw[hm] at hmo
           simp only at hmo
           have hd:decide ((0:Int)<=i)=false:=by rw[hmo];rfl
           simp only[ja,cond_true,cond_false,jb,ya,zr,zn,yd,yc,ye,eqT h6,hup,hcut,hix,hd,if_pos h6,hmS,hm,yy]
           rfl
          |some mb=>
           obtain⟨m,b'⟩:=mb
           rw[hm] at hmo
           obtain⟨hm1,hm2,hm3⟩:=hmo
           subst hm1 hm2
           have hd:decide ((0:Int)<=i)=true:=by simpa using hm3
           cases r with
           |nil=>
            simp only[ja,cond_true,cond_false,jb,ya,zr,zn,yd,yc,ye,yh,eqT h6,hup,hcut,hix,hd,if_pos h6,hmS,hm,eqF f1]
            rfl
           |cons s3 r=>
            by_cases h7:s3.1=1
            ·simp only[ja,cond_true,cond_false,jb,ya,zr,zn,yd,ye,eqT h6,hup,hcut,hix,hd,if_pos h6,hmS,hm,eqT h7,if_pos h7]
             exact ztt tag kd st i b' e he r (by simp only[yk] at hlr;omega) (fun u hu=>hkr u (yg _ (yg _ hu)))
            ·simp only[ja,cond_true,cond_false,jb,ya,zr,zn,yd,yc,ye,eqT h6,hup,hcut,hix,hd,if_pos h6,hmS,hm,eqF h7,if_neg h7]
             rfl
         ·simp only[ja,cond_true,jb,zr,zn,yc,ye,eqF h6,if_neg h6]
          rfl
       ·simp only[ja,cond_true,cond_false,zN,jb,ya,zr,zn,yf,yd,yc,ye,eqT h1,eqT h4,hset,eqF h5,tk,if_pos h1,if_pos h4,hs,if_neg h5]
        rfl
    ·simp only[ja,cond_true,cond_false,zN,jb,ya,zr,zn,yf,yd,yc,ye,eqT h1,eqF h4,tk,if_pos h1,if_neg h4]
     rfl
  ·simp only[ja,cond_true,zN,jb,ya,zr,zn,yf,yc,eqF h1,tk,if_neg h1]
   rfl
def SB5(tag:List UInt8)(kd:Int)(r:List Tok):Option (El uS2):=tk 1 r fun _ r=>tkM r fun m r=>tkE r (cA tag kd m.2.1 0 [])
def SB6(tag:List UInt8)(kd:Int)(r:List Tok):Option (El uS2):=tk 1 r fun _ r=>tkM r fun m r=>tk 1 r fun _ r=>(zhD r).map fun p=>cA tag kd m.2.1 p.1 p.2
def zjX(tag:List UInt8)(r:List Tok):Option (El uS2):=tk 4 r fun w r=>
 if zbs w.2.1=0 then none
 else if zbs w.2.1<=4 then tkE r (cA tag (zbs w.2.1) [] 0 [])
 else if zbs w.2.1=5 then SB5 tag (zbs w.2.1) r
 else if zbs w.2.1=6 then SB6 tag (zbs w.2.1) r
 else if zbs w.2.1=7 then SB7 tag (zbs w.2.1) r
 else SB8 tag (zbs w.2.1) r
def BR(o:Option ((El uS2)×Bool×Unit))(s:Option (El uS2)):Prop:=match s with
 |some c=>o=some (c,true,())
 |none=>∃ c,o=some (c,false,())
theorem kV{c:El uS2}{s:Option (El uS2)}(h:s=none):BR (some (c,false,())) s:=by
 rw[h];exact⟨c,rfl⟩
theorem zmP{α:Type}{l:List α}{k n:Nat}(h:k<=l.length)(hn:n<=k):decide ((((yb l):Nat):Int)<((n:Nat):Int))=false:=by simp;omega
theorem zmQ{α:Type}{l:List α}{n:Nat}(h:l.length≠n):((((yb l):Nat):Int)==((n:Nat):Int))=false:=by simp;omega
theorem zop(tag:List UInt8)(kd:Int)(a:Tok):SB5 tag kd []=none/\SB5 tag kd [a]=none:=⟨rfl,by
 unfold SB5 tk tkM
 by_cases h:a.1=1
 ·simp only[if_pos h]
 ·simp only[if_neg h]⟩
theorem zoq(tag:List UInt8)(kd:Int)(a:Tok):SB6 tag kd []=none/\SB6 tag kd [a]=none:=⟨rfl,by
 unfold SB6 tk tkM
 by_cases h:a.1=1
 ·simp only[if_pos h]
 ·simp only[if_neg h]⟩
theorem zor(tag:List UInt8)(kd:Int)(a:Tok):SB7 tag kd []=none/\SB7 tag kd [a]=none:=⟨rfl,by
 unfold SB7
 by_cases h:a.1=1
 ·simp only[tk,if_pos h]
 ·simp only[tk,if_neg h]⟩
theorem zos(tag:List UInt8)(kd:Int)(a:Tok):SB8 tag kd []=none/\SB8 tag kd [a]=none:=⟨rfl,by
 unfold SB8
 by_cases h:a.1=1
 ·simp only[tk,if_pos h]
 ·simp only[tk,if_neg h]⟩
theorem zu7(tag:List UInt8)(kd:Int)(s m:Tok)(r:List Tok):SB7 tag kd (s::m::r)=if s.1=1/\m.1=4 then(zm5 m.2.1).bind fun st=>tk 1 r fun _ r=>(itS r).map fun x=>cI tag kd st x else none:=by
 unfold SB7
 by_cases h1:s.1=1
 ·by_cases h4:m.1=4
  ·rw[if_pos ⟨h1,h4⟩]
   simp only[tk,if_pos h1,if_pos h4]
  ·rw[if_neg (fun h=>h4 h.2)]
   simp only[tk,if_pos h1,if_neg h4]
 ·rw[if_neg (fun h=>h1 h.1)]
  simp only[tk,if_neg h1]
theorem zu8(tag:List UInt8)(kd:Int)(s m:Tok)(r:List Tok):SB8 tag kd (s::m::r)=if s.1=1/\m.1=4 then(zm5 m.2.1).bind fun st=>tk 1 r fun _ r=>tk 4 r fun w r=>(zji w.2.1).bind fun mb=>tk 1 r fun _ r=>(zoT r).map fun f=>cS tag kd st mb.1 mb.2 f else none:=by
 unfold SB8
 by_cases h1:s.1=1
 ·by_cases h4:m.1=4
  ·rw[if_pos ⟨h1,h4⟩]
   simp only[tk,if_pos h1,if_pos h4]
  ·rw[if_neg (fun h=>h4 h.2)]
   simp only[tk,if_pos h1,if_neg h4]
 ·rw[if_neg (fun h=>h1 h.1)]
  simp only[tk,if_neg h1]
theorem zu6(tag:List UInt8)(kd:Int)(s m:Tok)(r:List Tok):SB6 tag kd (s::m::r)=if s.1=1/\zh0 m=true then tk 1 r fun _ r=>(zhD r).map fun p=>cA tag kd m.2.1 p.1 p.2 else none:=by
 unfold SB6
 by_cases h1:s.1=1
 ·by_cases h4:zh0 m=true
  ·rw[if_pos ⟨h1,h4⟩]
   simp only[tk,tkM,if_pos h1,if_pos h4]
  ·rw[if_neg (fun h=>h4 h.2)]
   simp only[tk,tkM,if_pos h1,if_neg h4]
 ·rw[if_neg (fun h=>h1 h.1)]
  simp only[tk,if_neg h1]
theorem zu5(tag:List UInt8)(kd:Int)(s m:Tok)(r:List Tok):SB5 tag kd (s::m::r)=if s.1=1/\zh0 m=true then tkE r (cA tag kd m.2.1 0 []) else none:=by
 unfold SB5
 by_cases h1:s.1=1
 ·by_cases h4:zh0 m=true
  ·rw[if_pos ⟨h1,h4⟩]
   simp only[tk,tkM,if_pos h1,if_pos h4]
  ·rw[if_neg (fun h=>h4 h.2)]
   simp only[tk,tkM,if_pos h1,if_neg h4]
 ·rw[if_neg (fun h=>h1 h.1)]
  simp only[tk,if_neg h1]
theorem kn1{a b:Tok}{r:List Tok}{c:Bool}(h:(kc b != 115)=c):(nth .u8 ((a::b::r).map kc) 1 != (115:UInt8))=c:=h
theorem kn3{a b d e:Tok}{r:List Tok}{c:Bool}(h:(kc e != 115)=c):(nth .u8 ((a::b::d::e::r).map kc) 3 != (115:UInt8))=c:=h
theorem kn5{a b d e f g:Tok}{r:List Tok}{c:Bool}(h:(kc g != 115)=c):(nth .u8 ((a::b::d::e::f::g::r).map kc) 5 != (115:UInt8))=c:=h
theorem zz9(a b c:Tok)(r:List Tok):nth uS1 (@yx Tok a (b::c::r)) 2=c:=rfl
theorem zAa(a b c d e:Tok)(r:List Tok):nth uS1 (@yx Tok a (b::c::d::e::r)) 4=e:=rfl
theorem zvk(a b c d:Tok)(r:List Tok):ze (a::b::c::d::r) 4=r:=by rw[kD];rfl
theorem zw3(a b c d e f:Tok)(r:List Tok):ze (a::b::c::d::e::f::r) 6=r:=by rw[kD];rfl
theorem kcF{t:Tok}(h:qC t)(h1:t.1=1):(kc t != 115)=false:=by rw[zyX h,eqT h1];rfl
theorem kcT{t:Tok}(h:qC t)(h1:¬ t.1=1):(kc t != 115)=true:=by rw[zyX h,eqF h1];rfl
theorem zq9(tag:List UInt8)(l:List Tok)(hl:l.length<=20000)(hk:∀ t ∈ l,qC t):BR (za7 200000 tag l) (zjX tag l):=by
 cases l with
 |nil=>exact⟨_,rfl⟩
 |cons w r=>
  have e0:((((yb (w::r)):Nat):Int)==(0:Int))=false:=zmQ (n:=0) (by simp)
  have hkw:=hk w (yi ..)
  have hks:=znB (w::r) hl hk
  have hkv:=zi5 w.2.1 hkw.2.1
  have hkr:=zrl w.2.1 hkw.2.1
  unfold za7 zjX
  simp only[e0,cond_false,ja,cond_true,jb,hkr,ya,hks]
  by_cases h4:w.1=4
  ·simp only[neF h4,cond_false,tk,if_pos h4]
   generalize zbs w.2.1=k at hkv |-
   by_cases hz:k=0
   ·simp only[eqT hz,cond_true,show decide ((0:Int)<k)=false from by simp;omega,cond_false,if_pos hz]
    exact⟨_,rfl⟩
   ·simp only[eqF hz,cond_false,if_neg hz,show decide ((0:Int)<k)=true from by simp;omega,cond_true]
    by_cases hk4:k<=4
    ·simp only[show decide (k<=(4:Int))=true from by simpa using hk4,cond_true,if_pos hk4]
     cases r with
     |nil=>exact rfl
     |cons a r=>
      rw[show((((yb (w::a::r)):Nat):Int)==(1:Int))=false from zmQ (n:=1) (by simp)]
      exact⟨_,rfl⟩
    ·simp only[show decide (k<=(4:Int))=false from by simpa using hk4,cond_false,if_neg hk4]
     match r,hl,hk with
     | [],hl,hk=>
      simp only[show decide ((((yb [w]):Nat):Int)<3)=true from rfl,cond_true]
      refine kV ?_
      split
      ·rfl
      ·split
       ·rfl
       ·split<;>rfl
     | [a],hl,hk=>
      simp only[show decide ((((yb [w,a]):Nat):Int)<3)=true from rfl,cond_true]
      refine kV ?_
      rw[(zop tag k a).2,(zoq tag k a).2,(zor tag k a).2,(zos tag k a).2]
      split
      ·rfl
      ·split
       ·rfl
       ·split<;>rfl
     |s::m::r,hl,hk=>
      have hs:=hk s (by simp)
      have hm:=hk m (by simp)
      have hkr:∀ t ∈ r,qC t:=fun t ht=>hk t (yg _ (yg _ (yg _ ht)))
      have hlr:r.length<=19997:=by simp only[yk] at hl;omega
      have e3:decide ((((yb (w::s::m::r)):Nat):Int)<(3:Int))=false:=zmP (k:=3) (n:=3) (by simp) (by omega)
      have i1:inb (1:Int) (yb ((w::s::m::r).map kc))=true:=zZ (i:=1) (by simp)
      have i2:inb (2:Int) (yb (w::s::m::r))=true:=zZ (i:=2) (by simp)
      have hbox:=ztB m hm.2.1
      have hset:=zr0 m.2.1 hm.2.1
      rw[zu5,zu6,zu7,zu8]
      by_cases h1:s.1=1
      ·simp only[e3,cond_false,i1,cond_true,i2,zz9]
       rw[kn1 (kcF hs h1)]
       simp only[cond_false]
       by_cases hk6:k<=6
       ·simp only[show decide (k<=(6:Int))=true from by simpa using hk6,cond_true,hbox,ya]
        cases hb:zh0 m with
        |false=>
         simp only[yc,cond_true]
         refine kV ?_
         by_cases h5:k=5
         ·rw[if_pos h5,if_neg (fun h=>by cases h.2)]
         ·rw[if_neg h5,if_pos (show k=6 by omega),if_neg (fun h=>by cases h.2)]
        |true=>
         simp only[yd,cond_false]
         by_cases h5:k=5
         ·simp only[eqT h5,cond_true,if_pos h5]
          rw[if_pos (And.intro h1 trivial)]
          cases r with
          |nil=>exact rfl
          |cons a r=>
           rw[show((((yb (w::s::m::a::r)):Nat):Int)==(3:Int))=false from zmQ (n:=3) (by simp)]
           exact⟨_,rfl⟩
         ·have h6:k=6:=by omega
          simp only[eqF h5,cond_false,if_neg h5,if_pos h6]
          rw[if_pos (And.intro h1 trivial)]
          cases r with
          |nil=>
           simp only[show decide ((((yb [w,s,m]):Nat):Int)<4)=true from rfl,cond_true]
           exact⟨_,rfl⟩
          |cons s2 r=>
           have hs2:=hkr s2 (by simp)
           have e4:decide ((((yb (w::s::m::s2::r)):Nat):Int)<(4:Int))=false:=zmP (k:=4) (n:=4) (by simp) (by omega)
           have i3:inb (3:Int) (yb ((w::s::m::s2::r).map kc))=true:=zZ (i:=3) (by simp)
           have b4:z8 (4:Int) (w::s::m::s2::r)=true:=xI (a:=4) (by simp)
           by_cases h7:s2.1=1
           ·have happ:=zty tag k m.2.1 r (by simp only[yk] at hlr;omega) (fun t ht=>hkr t (yg _ ht))
            unfold cA at happ
            simp only[e4,cond_false,i3,cond_true,b4,yf,zvk,tk,if_pos h7]
            rw[kn3 (kcF hs2 h7)]
            simp only[cond_false]
            cases ha:zhD r with
            |none=>
             rw[ha] at happ
             obtain⟨c,hc⟩:=happ
             rw[hc]
             exact⟨_,rfl⟩
            |some p=>
             obtain⟨f,d⟩:=p
             rw[ha] at happ
             simp only at happ
             rw[happ]
             rfl
           ·simp only[e4,cond_false,i3,cond_true,tk,if_neg h7]
            rw[kn3 (kcT hs2 h7)]
            simp only[cond_true]
            exact⟨_,rfl⟩
       ·have h5:¬ k=5:=by omega
        have h6:¬ k=6:=by omega
        simp only[show decide (k<=(6:Int))=false from by simpa using hk6,cond_false,hset,ya,if_neg h5,if_neg h6]
        by_cases hm4:m.1=4
        ·rw[if_pos (And.intro h1 hm4),if_pos (And.intro h1 hm4)]
         simp only[neF hm4,cond_false]
         cases hst:zm5 m.2.1 with
         |none=>
          simp only[yc,cond_true,yy]
          refine kV ?_
          split<;>rfl
         |some st=>
          simp only[yd,cond_false,ya]
          match r,hkr,hlr with
          | [],_,_=>
           simp only[show decide ((((yb [w,s,m]):Nat):Int)<5)=true from rfl,cond_true]
           refine kV ?_
           split<;>rfl
          | [s2],_,_=>
           simp only[show decide ((((yb [w,s,m,s2]):Nat):Int)<5)=true from rfl,cond_true]
           refine kV ?_
           by_cases h7:s2.1=1
           ·simp only[tk,if_pos h7]
            split<;>rfl
           ·simp only[tk,if_neg h7]
            split<;>rfl
          |s2::t::r,hkr,hlr=>
           have hs2:=hkr s2 (by simp)
           have ht:=hkr t (by simp)
           have hkr2:∀ u ∈ r,qC u:=fun u hu=>hkr u (yg _ (yg _ hu))
           have hlr2:r.length<=19995:=by simp only[yk] at hlr;omega
           have e5:decide ((((yb (w::s::m::s2::t::r)):Nat):Int)<(5:Int))=false:=zmP (k:=5) (n:=5) (by simp) (by omega)
           have i3:inb (3:Int) (yb ((w::s::m::s2::t::r).map kc))=true:=zZ (i:=3) (by simp)
           have b4:z8 (4:Int) (w::s::m::s2::t::r)=true:=xI (a:=4) (by simp)
           have i4:inb (4:Int) (yb (w::s::m::s2::t::r))=true:=zZ (i:=4) (by simp)
           by_cases h7:s2.1=1
           ·simp only[e5,cond_false,i3,cond_true,b4,yf,zvk,tk,if_pos h7]
            rw[kn3 (kcF hs2 h7)]
            simp only[cond_false]
            by_cases hk7:k=7
            ·simp only[eqT hk7,cond_true,if_pos hk7]
             have hlist:=zjb true (t::r) (by simp only[yk];omega) (fun u hu=>by
              rcases yA.1 hu with rfl|hu
              ·exact ht
              ·exact hkr2 u hu)
             cases r with
             |nil=>
              rw[show((((yb [w,s,m,s2,t]):Nat):Int)==(5:Int))=true from rfl]
              have hwords:=ze5 true [t] (by simp) (fun u hu=>by rw[yL.1 hu];exact ht)
              have hl1:∃ v b,jC 200000 [t] true=some (v,b,()):=by
               cases ho:zjP (brS true [t]) with
               |none=>rw[ho] at hlist;obtain⟨v,hv⟩:=hlist;exact⟨v,false,hv⟩
               |some x=>rw[ho] at hlist;exact⟨x,true,hlist⟩
              obtain⟨v,b,hv⟩:=hl1
              simp only[hv,ya,cond_true]
              have hi:itS [t]=zt (fW true) orI 0 [t]:=rfl
              rw[hi]
              cases ho:zt (fW true) orI 0 [t] with
              |none=>rw[ho] at hwords;obtain⟨v,hv⟩:=hwords;rw[hv];exact⟨_,rfl⟩
              |some x=>rw[ho] at hwords;simp only[WR] at hwords;rw[hwords];rfl
             |cons b r=>
              rw[show((((yb (w::s::m::s2::t::b::r)):Nat):Int)==(5:Int))=false from zmQ (n:=5) (by simp)]
              simp only[cond_false]
              have hi:itS (t::b::r)=zjP (brS true (t::b::r)):=rfl
              rw[hi]
              cases ho:zjP (brS true (t::b::r)) with
              |none=>rw[ho] at hlist;obtain⟨v,hv⟩:=hlist;rw[hv];exact⟨_,rfl⟩
              |some x=>rw[ho] at hlist;simp only[WR] at hlist;rw[hlist];rfl
            ·simp only[eqF hk7,cond_false,if_neg hk7,i4,cond_true,zAa,zrD t.2.1 ht.2.1]
             by_cases ht4:t.1=4
             ·simp only[neF ht4,cond_false,if_pos ht4]
              cases hmo:zji t.2.1 with
              |none=>
               simp only[znJ,ya,show decide ((-1:Int)<0)=true from rfl,cond_true,yy]
               exact⟨_,rfl⟩
              |some mb=>
               obtain⟨mo,sl⟩:=mb
               have hmo0:decide (mo<(0:Int))=false:=by
                obtain⟨w',b',i,_,_,h3⟩:=zkB (t.2.1.map up) (by rw[yC];exact ht.2.1)
                rw[show zlX (t.2.1.map up)=some (mo,sl) from hmo] at h3
                obtain⟨h4,h5,h6⟩:=h3
                simp;omega
               simp only[znJ,ya,hmo0,cond_false]
               match r,hkr2,hlr2 with
               | [],_,_=>
                simp only[show decide ((((yb [w,s,m,s2,t]):Nat):Int)<7)=true from rfl,cond_true]
                exact⟨_,rfl⟩
               | [s3],_,_=>
                simp only[show decide ((((yb [w,s,m,s2,t,s3]):Nat):Int)<7)=true from rfl,cond_true]
                refine kV ?_
                by_cases h8:s3.1=1
                ·simp only[if_pos h8];rfl
                ·simp only[if_neg h8]
               |s3::u::r,hkr2,hlr2=>
                have hs3:=hkr2 s3 (by simp)
                have e7:decide ((((yb (w::s::m::s2::t::s3::u::r)):Nat):Int)<(7:Int))=false:=zmP (k:=7) (n:=7) (by simp) (by omega)
                have i5:inb (5:Int) (yb ((w::s::m::s2::t::s3::u::r).map kc))=true:=zZ (i:=5) (by simp)
                have b6:z8 (6:Int) (w::s::m::s2::t::s3::u::r)=true:=xI (a:=6) (by simp)
                by_cases h8:s3.1=1
                ·have hku:∀ v ∈ u::r,qC v:=fun v hv=>hkr2 v (yg _ hv)
                 have hlu:(u::r).length<=20000:=by simp only[yk] at hlr2 |-;omega
                 have hlist:=zjb false (u::r) hlu hku
                 have hwords:=ze5 false (u::r) hlu hku
                 simp only[e7,cond_false,i5,cond_true,b6,zw3,if_pos h8]
                 rw[kn5 (kcF hs3 h8)]
                 simp only[cond_false]
                 unfold zoT
                 cases ho:zjP (brS false (u::r)) with
                 |none=>
                  rw[ho] at hlist
                  obtain⟨v,hv⟩:=hlist
                  simp only[hv,ya,yc,cond_true]
                  cases hw:zt (fW false) orI 0 (u::r) with
                  |none=>rw[hw] at hwords;obtain⟨v',hv'⟩:=hwords;rw[hv'];exact⟨_,rfl⟩
                  |some x=>rw[hw] at hwords;simp only[WR] at hwords;rw[hwords];rfl
                 |some x=>
                  rw[ho] at hlist
                  simp only[WR] at hlist
                  simp only[hlist,ya,yd,cond_false]
                  rfl
                ·simp only[e7,cond_false,i5,cond_true,if_neg h8]
                 rw[kn5 (kcT hs3 h8)]
                 simp only[cond_true]
                 exact⟨_,rfl⟩
             ·cases hmo:zji t.2.1 with
              |none=>simp only[znJ,ya,neT ht4,cond_true,if_neg ht4];exact⟨_,rfl⟩
              |some mb=>simp only[znJ,ya,neT ht4,cond_true,if_neg ht4];exact⟨_,rfl⟩
           ·simp only[e5,cond_false,i3,cond_true,tk,if_neg h7]
            rw[kn3 (kcT hs2 h7)]
            simp only[cond_true]
            refine kV ?_
            split<;>rfl
        ·rw[if_neg (fun h:s.1=1/\m.1=4=>hm4 h.2),if_neg (fun h:s.1=1/\m.1=4=>hm4 h.2)]
         simp only[neT hm4,cond_true]
         refine kV ?_
         split<;>rfl
      ·simp only[e3,cond_false,i1,cond_true]
       rw[kn1 (kcT hs h1)]
       simp only[cond_true]
       refine kV ?_
       rw[if_neg (fun h:s.1=1/\zh0 m=true=>h1 h.1),if_neg (fun h:s.1=1/\zh0 m=true=>h1 h.1),if_neg (fun h:s.1=1/\m.1=4=>h1 h.1),if_neg (fun h:s.1=1/\m.1=4=>h1 h.1)]
       split
       ·rfl
       ·split
        ·rfl
        ·split<;>rfl
  ·simp only[neT h4,cond_true,tk,if_neg h4]
   exact⟨_,rfl⟩
def zcA(b:List UInt8):El uS2×Bool:=
 if 0<run wH b/\b[run wH b]?=some 32 then
  (match zaV (b.drop (run wH b+1)) 200000 0 with
  |.inl l=>(match zjX (b.take (run wH b)) l.dropLast with
   |some c=>(c,true)
   |none=>(ziX (b.take (run wH b)),false))
  |.inr _=>(ziX (b.take (run wH b)),false))
 else(ziX [],false)
theorem znQ(b:List UInt8)(hb:b.length<=20000):kk 200000 b=some ((zcA b).1,(zcA b).2,()):=by
 unfold kk
 rw[zsq 200000 b (by omega) (by omega)]
 unfold zu2 zcA
 by_cases h:0<run wH b/\b[run wH b]?=some 32
 ·have hlt:=(yQ.1 h.2).1
  rw[if_pos h,if_pos h]
  generalize run wH b=n at h hlt
  generalize b.take n=tag
  have hb1:z8 ((n+1:Nat):Int) b=true:=xI (by omega)
  simp only[ya,yd,cond_false,hb1,yf,cond_true,yj,kD]
  have hdl:(b.drop (n+1)).length<=20000:=by rw[yv];omega
  rw[zqK 200000 (b.drop (n+1)) (by omega) (by omega) (by omega)]
  unfold zu3
  cases ht:zaV (b.drop (n+1)) 200000 0 with
  |inr a=>
   simp only[ya,show decide (((a:Nat):Int)<(0:Int))=false from by simp,yc,cond_true]
   rfl
  |inl l=>
   obtain⟨p,e,rfl,he,hk,hpl⟩:=zjI hdl 200000 0 l (by omega) ht
   simp only[ya,show decide ((-1:Int)<0)=true from rfl,yd,cond_false,yJ]
   cases p with
   |nil=>
    have f4:¬ e.1=4:=by omega
    simp only[yh,ja,cond_true,zN,jb,ya,eqF f4,yc]
    rfl
   |cons w p=>
    have hkw:=hk w (yi ..)
    have hkp:∀ t ∈ p,qC t:=fun t ht=>hk t (yg _ ht)
    have hlp:p.length<=20000:=by simp only[yk] at hpl;omega
    have hkv:=zi5 w.2.1 hkw.2.1
    simp only[ye,ja,cond_true,zN,jb,ya,zn,zpa _ hkw.2.1]
    rw[show List.drop 1 (w::(p++[e]))=p++[e] from rfl]
    unfold zjX
    by_cases h4:w.1=4
    ·simp only[eqT h4,yd,cond_false,tk,if_pos h4]
     generalize zbs w.2.1=k at hkv
     by_cases hz:k=0
     ·simp only[show decide ((0:Int)<k)=false from by simp;omega,yc,cond_true,if_pos hz]
      rfl
     ·simp only[show decide ((0:Int)<k)=true from by simp;omega,yd,cond_false,if_neg hz]
      have hR:∀ o:Option (El uS2),zm2 tag o=some ((match o with
        |some c=>(c,true)
        |none=>(ziX tag,false):El uS2×Bool).1,(match o with
        |some c=>(c,true)
        |none=>(ziX tag,false):El uS2×Bool).2,()):=fun o=>by cases o<;>rfl
      have hB1:=ztl tag k e he p hkp
      have hB5:=ztm tag k e he p hlp hkp
      have hB6:=ztn tag k e he p hlp hkp
      have hB7:=zto tag k e he p hlp hkp
      have hB8:=ztp tag k e he p hlp hkp
      rw[hR] at hB1 hB5 hB6 hB7 hB8
      by_cases hk4:k<=4
      ·rw[if_pos hk4,<- hB1]
       by_cases q1:k=1
       ·simp only[eqT q1,cond_true]
       ·by_cases q2:k=2
        ·simp only[eqF q1,eqT q2,cond_true,cond_false]
        ·by_cases q3:k=3
         ·simp only[eqF q1,eqF q2,eqT q3,cond_true,cond_false]
         ·simp only[eqF q1,eqF q2,eqF q3,eqT (show k=4 by omega),cond_true,cond_false]
      ·rw[if_neg hk4]
       simp only[eqF (show ¬ k=1 by omega),eqF (show ¬ k=2 by omega),eqF (show ¬ k=3 by omega),eqF (show ¬ k=4 by omega),cond_false]
       by_cases h5:k=5
       ·simp only[eqT h5,cond_true,if_pos h5]
        exact hB5
       ·simp only[eqF h5,cond_false,if_neg h5]
        by_cases h6:k=6
        ·simp only[eqT h6,cond_true,if_pos h6]
         exact hB6
        ·simp only[eqF h6,cond_false,if_neg h6]
         by_cases h7:k=7
         ·simp only[eqT h7,cond_true,if_pos h7]
          exact hB7
         ·simp only[eqF h7,cond_false,if_neg h7,eqT (show k=8 by omega),cond_true]
          exact hB8
    ·simp only[eqF h4,yc,cond_true,tk,if_neg h4]
     rfl
 ·rw[if_neg h,if_neg h]
  rfl
theorem zpP(b:List UInt8)(hb:b.length<=20000):zab 200000 b=some ((zcA b).1,(zcA b).2,()):=by
 unfold zab
 rw[zuN 200000 b (by omega) (by omega)]
 unfold zu2 zcA
 by_cases h:0<run wH b/\b[run wH b]?=some 32
 ·have hlt:=(yQ.1 h.2).1
  rw[if_pos h,if_pos h]
  generalize run wH b=n at h hlt
  generalize b.take n=tag
  have hb1:z8 ((n+1:Nat):Int) b=true:=xI (by omega)
  simp only[ya,yd,cond_false,hb1,yf,cond_true,yj,kD]
  have hdl:(b.drop (n+1)).length<=20000:=by rw[yv];omega
  rw[zsr 200000 (b.drop (n+1)) (by omega) (by omega) (by omega)]
  unfold zu3
  cases ht:zaV (b.drop (n+1)) 200000 0 with
  |inr a=>
   simp only[ya,show decide ((0:Int)<=((a:Nat):Int))=true from by simp,cond_true]
   rfl
  |inl l=>
   obtain⟨p,e,rfl,he,hk,hpl⟩:=zjI hdl 200000 0 l (by omega) ht
   have hlen:(p++[e]).length=p.length+1:=by simp
   have hw:yo .i64 ((((yb (p++[e])):Nat):Int)-1)=((p.length:Nat):Int):=by rw[hlen,wri (by omega) (by omega)];omega
   have hbn:=qn (a:=0) (b:=p.length) (n:=(p++[e]).length) (by omega) (by rw[hlen];omega)
   rw[show((0:Nat):Int)=(0:Int) from rfl] at hbn
   have hsl:slice (p++[e]) 0 p.length=p:=by rw[ql];simp
   have hbody:=zq9 tag p (by omega) hk
   simp only[ya,show decide ((0:Int) <= -1)=false from rfl,cond_false,yJ,hw,hbn,cond_true,yj,hsl]
   cases hs:zjX tag p with
   |none=>
    rw[hs] at hbody
    obtain⟨c,hc⟩:=hbody
    rw[hc]
    rfl
   |some c=>
    rw[hs] at hbody
    simp only[BR] at hbody
    rw[hbody]
    rfl
 ·rw[if_neg h,if_neg h]
  rfl
theorem xK{A:Type}{k:Int}{l:List Tok}{f:Tok->List Tok->Option A}{x:A}(h:tk k l f=some x):∃ t r,l=t::r/\t.1=k/\f t r=some x:=by
 cases l with
 |nil=>cases h
 |cons t r=>
  unfold tk at h
  simp only at h
  by_cases hk:t.1=k
  ·rw[if_pos hk] at h;exact⟨t,r,rfl,hk,h⟩
  ·rw[if_neg hk] at h;cases h
theorem zne{A:Type}{l:List Tok}{f:Tok->List Tok->Option A}{x:A}(h:tkM l f=some x):∃ t r,l=t::r/\zh0 t=true/\f t r=some x:=by
 cases l with
 |nil=>cases h
 |cons t r=>
  unfold tkM at h
  simp only at h
  by_cases hk:zh0 t=true
  ·rw[if_pos hk] at h;exact⟨t,r,rfl,hk,h⟩
  ·rw[if_neg hk] at h;cases h
theorem znd{A:Type}{l:List Tok}{y x:A}(h:tkE l y=some x):l=[]/\y=x:=by
 cases l with
 |nil=>cases h;exact⟨rfl,rfl⟩
 |cons t r=>cases h
theorem zhf:∀ {l:List (List UInt8)} {o:List (Int×Int)},jW l=some o->o.length=l.length
 | [],o,h=>by cases h;rfl
 |s::l,o,h=>by
  unfold jW at h
  cases hr:zbl s with
  |none=>rw[hr] at h;cases h
  |some r=>
   cases ht:jW l with
   |none=>rw[hr,ht] at h;cases h
   |some t=>
    rw[hr,ht] at h
    cases h
    simp only[yk,zhf ht]
theorem zm6{s:List UInt8}{o:List (Int×Int)}(h:zm5 s=some o):0<o.length/\o.length<=s.length+1:=by
 rw[zhf h]
 exact⟨(wu 44 s).1,(wu 44 s).2.1⟩
theorem zoB{tag:List UInt8}{l:List Tok}{c:El uS2}(hk:∀ t ∈ l,qC t)(h:zjX tag l=some c):
  (∃ k,1<=k/\k<=4/\c=cA tag k [] 0 [])\/(∃ m,m.length<=20000/\c=cA tag 5 m 0 [])\/(∃ m r f d,m.length<=20000/\zhD r=some (f,d)/\(∀ t ∈ r,qC t)/\c=cA tag 6 m f d)
  \/ (∃ s st r x,s.length<=20000/\zm5 s=some st/\itS r=some x/\(∀ t ∈ r,qC t)/\c=cI tag 7 st x)
  \/ (∃ s st w r m b f,s.length<=20000/\zm5 s=some st/\zji w=some (m,b)/\w.length<=20000/\zoT r=some f/\(∀ t ∈ r,qC t)/\c=cS tag 8 st m b f):=by
 unfold zjX at h
 obtain⟨w,r,rfl,h4,h⟩:=xK h
 have hkw:=hk w (yi ..)
 have hkr:∀ t ∈ r,qC t:=fun t ht=>hk t (yg _ ht)
 have hkv:=zi5 w.2.1 hkw.2.1
 generalize zbs w.2.1=k at h hkv
 by_cases hz:k=0
 ·rw[if_pos hz] at h;cases h
 ·rw[if_neg hz] at h
  by_cases hk4:k<=4
  ·rw[if_pos hk4] at h
   obtain⟨h1,h2⟩:=znd h
   exact .inl ⟨k,by omega,hk4,h2.symm⟩
  ·rw[if_neg hk4] at h
   by_cases h5:k=5
   ·rw[if_pos h5] at h
    subst h5
    obtain⟨s,r1,rfl,h6,h⟩:=xK h
    obtain⟨m,r2,rfl,h7,h⟩:=zne h
    obtain⟨h8,h9⟩:=znd h
    exact .inr (.inl ⟨m.2.1,(hkr m (by simp)).2.1,h9.symm⟩)
   ·rw[if_neg h5] at h
    by_cases h6:k=6
    ·rw[if_pos h6] at h
     subst h6
     obtain⟨s,r1,rfl,h6,h⟩:=xK h
     obtain⟨m,r2,rfl,h7,h⟩:=zne h
     obtain⟨s2,r3,rfl,h8,h⟩:=xK h
     cases ha:zhD r3 with
     |none=>rw[ha] at h;cases h
     |some p=>
      rw[ha] at h
      cases h
      exact .inr (.inr (.inl ⟨m.2.1,r3,p.1,p.2,(hkr m (by simp)).2.1,ha,fun t ht=>hkr t (by simp [ht]),rfl⟩))
    ·rw[if_neg h6] at h
     by_cases h7:k=7
     ·rw[if_pos h7] at h
      subst h7
      obtain⟨s,r1,rfl,h6,h⟩:=xK h
      obtain⟨t,r2,rfl,h7,h⟩:=xK h
      cases hs:zm5 t.2.1 with
      |none=>rw[hs] at h;cases h
      |some st=>
       rw[hs,ya] at h
       obtain⟨s2,r3,rfl,h8,h⟩:=xK h
       cases ha:itS r3 with
       |none=>rw[ha] at h;cases h
       |some x=>
        rw[ha] at h
        cases h
        exact .inr (.inr (.inr (.inl ⟨t.2.1,st,r3,x,(hkr t (by simp)).2.1,hs,ha,fun t ht=>hkr t (by simp [ht]),rfl⟩)))
     ·rw[if_neg h7] at h
      have h8:k=8:=by omega
      subst h8
      obtain⟨s,r1,rfl,h6,h⟩:=xK h
      obtain⟨t,r2,rfl,h7,h⟩:=xK h
      cases hs:zm5 t.2.1 with
      |none=>rw[hs] at h;cases h
      |some st=>
       rw[hs,ya] at h
       obtain⟨s2,r3,rfl,h8,h⟩:=xK h
       obtain⟨w2,r4,rfl,h9,h⟩:=xK h
       cases hm:zji w2.2.1 with
       |none=>rw[hm] at h;cases h
       |some mb=>
        rw[hm,ya] at h
        obtain⟨s3,r5,rfl,h10,h⟩:=xK h
        cases ha:zoT r5 with
        |none=>rw[ha] at h;cases h
        |some f=>
         rw[ha] at h
         cases h
         exact .inr (.inr (.inr (.inr ⟨t.2.1,st,w2.2.1,r5,mb.1,mb.2,f,(hkr t (by simp)).2.1,hs,hm,(hkr w2 (by simp)).2.1,ha,fun t ht=>hkr t (by simp [ht]),rfl⟩)))
theorem zpQ(b:List UInt8)(hb:b.length<=20000):(zcA b).1.2.2.2.1.length<=20001:=by
 unfold zcA
 split
 ·split
  ·rename_i l ht
   have hdl:(b.drop (run wH b+1)).length<=20000:=by rw[yv];omega
   obtain⟨p,e,rfl,he,hk,hpl⟩:=zjI hdl 200000 0 l (by omega) ht
   rw[yJ]
   cases hs:zjX (b.take (run wH b)) p with
   |none=>simp [ziX]
   |some c=>
    rcases zoB hk hs with⟨k,_,_,rfl⟩|⟨m,_,rfl⟩|⟨m,r,f,d,_,_,_,rfl⟩|⟨s,st,r,x,h1,h2,_,_,rfl⟩|⟨s,st,w,r,m,b,f,h1,h2,_,_,_,_,rfl⟩
    ·simp [cA]
    ·simp [cA]
    ·simp [cA]
    ·have:=(zm6 h2).2;simp only[cI];omega
    ·have:=(zm6 h2).2;simp only[cS];omega
  ·simp [ziX]
 ·simp [ziX]
theorem zv9(t:List UInt8)(k:Int)(m:List UInt8)(st:List (Int×Int))(it mo:Int)(si:Bool)(fl:UInt8)(da:List UInt8)(hst:st.length<=20001):∀ (n i:Nat),i<=st.length->st.length<n+i ->
  je 200000 n (i:Int) t k m st it mo si fl da t k m st it mo si fl da=some (.inr (t,k,m,st,it,mo,si,fl,da,t,k,m,st,it,mo,si,fl,da))
 |0,i,h,h'=>by omega
 |n+1,i,h,h'=>by
  unfold je za6
  by_cases hi:i<st.length
  ·simp only[zhN hi,cond_true,zZ hi,yj,jr (u:=.pair (.int .u32) (.int .u32)) hi,beq_self_eq_true,yf,yd,cond_false]
   rw[wri (by omega) (by omega),show((i:Int)+1)=((i+1:Nat):Int) by omega]
   exact zv9 t k m st it mo si fl da hst n (i+1) (by omega) (by omega)
  ·simp only[zhM hi,cond_false]
theorem zqf(c:El uS2)(h:c.2.2.2.1.length<=20001):za4 200000 c c=some (true,()):=by
 obtain⟨t,k,m,st,it,mo,si,fl,da⟩:=c
 have hL:=zv9 t k m st it mo si fl da h 200000 0 (by omega) (by simp only at h;omega)
 rw[show((0:Nat):Int)=(0:Int) from rfl] at hL
 unfold za4
 simp only[bne_self_eq_false,cond_false,hL,ya,zi,beq_self_eq_true,cond_true]
def zjs:List Frm->List (El uS2)->Option (List (El uS2))
 | [],out=>some out
 |fr::r,out=>if fr.1=2 then zjs r out else if(zcA fr.2).2=true/\fr.1=1 then zjs r (out++[(zcA fr.2).1]) else none
def prR{α:Type}:α ⊕ α->Option α
 |.inl _=>none
 |.inr o=>some o
def zAc{α:Type}:α ⊕ (Int×α)->Option (Int×α)
 |.inl _=>none
 |.inr o=>some o
theorem zm1(fs:List Frm)(hfs:fs.length<=20000)(hd:∀ fr ∈ fs,fr.2.length<=20000)(left:Int):∀ (m i:Nat) (out:List (El uS2)),i<=fs.length->fs.length<m+i->out.length<=i ->
  (∃ o,qF 200000 m fs ((fs.length:Nat):Int) (i:Int) out=some o/\prR o=zjs (fs.drop i) out)/\(∃ o,jh 200000 m fs left (i:Int) out=some o/\zAc o=(zjs (fs.drop i) out).map fun o=>(left,o))
 |0,i,out,hi,h,ho=>by omega
 |m+1,i,out,hi,h,ho=>by
  unfold qF zat jh zbe
  by_cases hl:i<fs.length
  ·have hw:yo .i64 ((i:Int)+1)=((i+1:Nat):Int):=by rw[wri (by omega) (by omega)];omega
   have hdi:=hd fs[i] (yE hl)
   have hn:nth (.pair (.int .i64) (.sl .u8)) fs (yG (i:Int))=fs[i]:=by rw[yj];exact jr (u:=.pair (.int .i64) (.sl .u8)) hl
   have hlo:Nat.blt (out.length+1) qc=true:=xH (by omega)
   simp only[zhN hl,cond_true,zZ hl,hn,hw]
   rw[drop_one hl]
   unfold zjs
   by_cases h2:fs[i].1=2
   ·simp only[h2,beq_self_eq_true,cond_true,if_true]
    exact zm1 fs hfs hd left m (i+1) out (by omega) (by omega) (by omega)
   ·simp only[beq_eq_false_iff_ne.2 h2,cond_false,if_neg h2]
    rw[znQ _ hdi,zpP _ hdi]
    simp only[ya,hlo,cond_true]
    obtain⟨ih1,ih2⟩:=zm1 fs hfs hd left m (i+1) (out++[(zcA fs[i].2).1]) (by omega) (by omega) (by simp;omega)
    cases hp:(zcA fs[i].2).2 with
    |false=>
     simp only[yc,cond_true,yu,false_and,if_false]
     refine⟨⟨_,rfl,rfl⟩,?_⟩
     by_cases h1:fs[i].1=1
     ·have:(fs[i].1 != 1)=false:=by simp [h1]
      rw[this];exact⟨_,rfl,rfl⟩
     ·have:(fs[i].1 != 1)=true:=by simp [h1]
      rw[this];exact⟨_,rfl,rfl⟩
    |true=>
     simp only[yd,cond_false,true_and]
     by_cases h1:fs[i].1=1
     ·have:(fs[i].1 != 1)=false:=by simp [h1]
      rw[this,if_pos h1]
      exact⟨ih1,ih2⟩
     ·have:(fs[i].1 != 1)=true:=by simp [h1]
      rw[this,if_neg h1]
      exact⟨⟨_,rfl,rfl⟩,⟨_,rfl,rfl⟩⟩
  ·have:fs.drop i=[]:=yT (by omega)
   simp only[zhM hl,cond_false]
   rw[this]
   exact⟨⟨_,rfl,rfl⟩,⟨_,rfl,rfl⟩⟩
def zvb(b:List UInt8):Option (List (El uS2)):=zjs (ze7 b).1 []
theorem zpY{b:List UInt8}(hb:b.length<=20000):xY 200000 b=some (if(ze7 b).2=0 then(match zvb b with|some o=>(o,true,())|none=>([],false,())) else([],false,())):=by
 unfold xY
 rw[zn5 200000 hb (by omega),ya]
 have hc:=zfA b
 by_cases h:(ze7 b).2=0
 ·obtain⟨⟨o,h1,h2⟩,_⟩:=zm1 (ze7 b).1 (by omega) (fun fr hm=>Nat.le_trans (zhr b fr hm) hb) 0 200000 0 [] (Nat.zero_le _) (by omega) (by simp)
  rw[show((0:Nat):Int)=0 from rfl] at h1
  have h0:¬ ((0:Int)<(((ze7 b).2:Nat):Int)):=by omega
  simp only[h0,decide_false,cond_false,h1,ya,h,if_true]
  unfold zvb
  rw[yw] at h2
  rw[<- h2]
  cases o<;>rfl
 ·have h0:(0:Int)<(((ze7 b).2:Nat):Int):=by omega
  simp only[h0,decide_true,cond_true,h,if_false]
theorem zrR{b:List UInt8}(hb:b.length<=20000):zbc 200000 b=some (match zvb b with|some o=>(o,decide ((ze7 b).2=0),())|none=>([],false,())):=by
 unfold zbc
 rw[zqz 200000 hb (by omega) (by omega),ya]
 have hc:=zfA b
 obtain⟨_,o,h1,h2⟩:=zm1 (ze7 b).1 (by omega) (fun fr hm=>Nat.le_trans (zhr b fr hm) hb) ((ze7 b).2:Int) 200000 0 [] (Nat.zero_le _) (by omega) (by simp)
 rw[show((0:Nat):Int)=0 from rfl] at h1
 simp only[h1,ya]
 unfold zvb
 rw[yw] at h2
 cases hr:zjs (ze7 b).1 [] with
 |none=>rw[hr] at h2;cases o<;>first|rfl|cases h2
 |some w=>
  rw[hr] at h2
  cases o with
  |inl=>cases h2
  |inr p=>
   cases h2
   simp only[zi]
   by_cases h:(ze7 b).2=0
   ·simp [h]
   ·have:((((ze7 b).2:Nat):Int)==0)=false:=by simp;omega
    rw[this,decide_eq_false h]
theorem zjt:∀ (fs:List Frm) (out w:List (El uS2)),(∀ fr ∈ fs,fr.2.length<=20000)->zjs fs out=some w->(∀ c ∈ out,c.2.2.2.1.length<=20001)->(∀ c ∈ w,c.2.2.2.1.length<=20001)/\w.length<=out.length+fs.length
 | [],out,w,_,h,ho=>by cases h;exact⟨ho,by simp⟩
 |fr::r,out,w,hd,h,ho=>by
  unfold zjs at h
  have hd':∀ x ∈ r,x.2.length<=20000:=fun x hx=>hd x (yg _ hx)
  split at h
  ·obtain⟨h1,h2⟩:=zjt r out w hd' h ho
   exact⟨h1,by simp only[yk];omega⟩
  ·split at h
   ·obtain⟨h1,h2⟩:=zjt r _ w hd' h fun c hc=>by
     rcases yY.1 hc with hc|hc
     ·exact ho c hc
     ·simp only[yL] at hc;subst hc;exact zpQ fr.2 (hd fr yi)
    exact⟨h1,by simp only[yB,yk,List.length_nil] at h2 |-;omega⟩
   ·cases h
theorem zqe(l:List (El uS2))(hl:l.length<=20000)(hs:∀ c ∈ l,c.2.2.2.1.length<=20001):∀ (m i:Nat),i<=l.length->l.length<m+i->jv 200000 m l l (i:Int)=some (.inr ())
 |0,i,hi,h=>by omega
 |m+1,i,hi,h=>by
  unfold jv zbE
  by_cases hlt:i<l.length
  ·have hw:yo .i64 ((i:Int)+1)=((i+1:Nat):Int):=by rw[wri (by omega) (by omega)];omega
   have hn:nth uK2 l (yG (i:Int))=l[i]:=by rw[yj];exact jr (u:=uK2) hlt
   simp only[zhN hlt,cond_true,zZ hlt,hn,hw]
   rw[zqf l[i] (hs _ (yE hlt)),ya]
   simp only[yd,cond_false]
   exact zqe l hl hs m (i+1) (by omega) (by omega)
  ·simp only[zhM hlt,cond_false]
theorem zit(l:List (El uS2))(hl:l.length<=20000)(hs:∀ c ∈ l,c.2.2.2.1.length<=20001):kh 200000 l l=some (true,()):=by
 unfold kh
 have:=zqe l hl hs 200000 0 (Nat.zero_le _) (by omega)
 rw[show((0:Nat):Int)=0 from rfl] at this
 simp only[bne_self_eq_false,cond_false,this,ya,zi]
theorem zpZ(b:List UInt8):qL 200000 b=some (true,()):=by
 unfold qL
 by_cases h:(3000:Int)<(((yb b):Nat):Int)
 ·rw[decide_eq_true h];rfl
 ·rw[decide_eq_false h,cond_false]
  have hb:b.length<=20000:=by omega
  have hc:=zfA b
  rw[zpY hb,zrR hb,ya,ya]
  have hnil:kh 200000 [] []=some (true,()):=zit [] (by simp) (fun c h=>by cases h)
  cases ha:zvb b with
  |none=>
   by_cases h0:(ze7 b).2=0
   ·simp only[h0,if_true,yc,cond_true,ya,beq_self_eq_true]
    rw[hnil];rfl
   ·simp only[h0,if_false,yc,cond_true,ya,beq_self_eq_true]
    rw[hnil];rfl
  |some w=>
   obtain⟨q1,q2⟩:=zjt (ze7 b).1 [] w (fun fr hm=>Nat.le_trans (zhr b fr hm) hb) ha (fun c h=>by cases h)
   by_cases h0:(ze7 b).2=0
   ·simp only[h0,if_true,decide_true,yd,cond_false,cond_true,ya,beq_self_eq_true]
    rw[zit w (by simp at q2;omega) q1];rfl
   ·simp only[h0,if_false,decide_false,yc,cond_true,ya,beq_self_eq_true]
    rw[hnil];rfl
end Go.Proofs.Model
