/- Machines and laws 5. -/
import Derived.Test.YtlfojfedfhpoiaaGreatDoorB4
import Derived.Lib.Join
open Option renaming bind_some->ya,map_some->yp,map_none->yx,bind->yC,bind_none->yS
open Bool renaming not_true->yb,not_false->yd,and_true->yf,and_eq_true->yn,true_and->yA,false_eq_true->yG,eq_iff_iff->vn,or_eq_true->vp,true_or->vw,eq_false_iff->vF,or_false->vI,false_or->vJ,and_self->vK
open List renaming length->yc,cons_append->ye,mem_cons_of_mem->yg,length_cons->yh,length_append->yi,nil_append->yj,mem_cons_self->yk,length_nil->yo,drop_of_length_le->yu,append_nil->yv,map_cons->yw,all_eq_true->yy,drop_zero->yz,replicate->yD,append_assoc->yE,length_drop->yF,all_cons->yH,mem_range->yI,mem_cons->yJ,length_take->yL,getElem_mem->yM,cons->yN,drop_eq_nil_of_le->yO,range->yR,mem_append->yT,mem_singleton->yU,drop_left->yV,length_map->yW,flatMap_cons->yX,take_of_length_le->yZ,mem_append_right->vd,mem_append_left->ve,take_left->vg,take_succ_eq_append_getElem->vh,drop_append_of_le_length->vl,take_append_of_le_length->vm,take_zero->vq,getElem?_eq_getElem->vt,length_eq_zero_iff->vu,getLast?_cons_cons->vv,append_eq_nil_iff->vy,length_replicate->vA,dropLast_concat->vB,length_pos_iff->vC,replicate_succ->vD,map_append->vG,map_nil->vL
open Int renaming toNat_natCast->ym,toNat->yB
open UInt8 renaming ofNat->yq,ofNat_toNat->yQ,toNat->vM
open Go.IntKind renaming wrap->yr
open Nat renaming zero_le->yK,blt->yP,add_sub_cancel_left->yY,ble->vi,le_trans->vj,le_refl->vo,zero_add->vz,blt_eq->vE,lt_succ_self->vH,sub_self->vN,add_zero->vO,ble_eq->vP
open List.cons renaming inj->vk,injEq->vQ
set_option linter.unusedVariables false
set_option linter.unusedSimpArgs false
set_option maxRecDepth 100000
namespace Go.Proofs.Model
open Go Go.Gx Go.Mx Go.Sx
def up(c:UInt8):UInt8:=cond (decide ((97:UInt8)<=c)) (cond (decide (c<=(122:UInt8))) (c-32) c) c
theorem zz5(c:UInt8)(h1:decide ((97:UInt8)<=c)=true)(h2:decide (c<=(122:UInt8))=true):c &&& ~~~(32:UInt8)=c-32:=by
 have key:∀ n:Fin 256,decide ((97:UInt8)<=yq n.val)=true->decide (yq n.val<=(122:UInt8))=true->yq n.val &&& ~~~(32:UInt8)=yq n.val-32:=by decide +kernel
 have:=key ⟨c.toNat,c.toNat_lt⟩
 simp only[yQ] at this
 exact this h1 h2
theorem zzz{s:LB}{i:Nat}(h:i<s.length):((s.take i).map up++s.drop i).set i (up s[i])=(s.take (i+1)).map up++s.drop (i+1):=by
 have hl:((s.take i).map up).length=i:=by rw[yW,yL];omega
 rw[List.set_append,if_neg (by omega),hl,vN,drop_one h,List.set_cons_zero,vh h,vG,yE]
 rfl
theorem zy8{s:LB}{i:Nat}(h:i<s.length):nth .u8 ((s.take i).map up++s.drop i) i=s[i]:=by
 have hl:((s.take i).map up).length=i:=by rw[yW,yL];omega
 have h2:i<((s.take i).map up++s.drop i).length:=by rw[yi,hl,yF];omega
 rw[show nth .u8 ((s.take i).map up++s.drop i) i=((s.take i).map up++s.drop i)[i] from wO h2,List.getElem_append_right (by omega)]
 simp only[hl,vN,List.getElem_drop,vO]
theorem zj9(N:Nat)(s:LB)(hs:s.length<=100000):∀ (m i:Nat),i<=s.length->s.length<m+i ->
  qX N m (s.length:Int) (i:Int) ((s.take i).map up++s.drop i)=some (s.map up)
 |0,i,h,h'=>by omega
 |m+1,i,h,h'=>by
  unfold qX zcD
  by_cases hi:i<s.length
  ·have hlen:i<((s.take i).map up++s.drop i).length:=by rw[yi,yW,yL,yF];omega
   have hn:nth .u8 ((s.take i).map up++s.drop i) (yB (i:Int))=s[i]:=by rw[ym];exact zy8 hi
   simp only[zhP hi,cond_true,jh hlen]
   generalize nth .u8 ((s.take i).map up++s.drop i) (yB (i:Int))=c at hn |-
   subst hn
   rw[ym,wri (by omega) (by omega),show((i:Int)+1)=((i+1:Nat):Int) by omega]
   have ih:=zj9 N s hs m (i+1) (by omega) (by omega)
   rw[<- zzz hi] at ih
   cases h1:decide ((97:UInt8)<=s[i]) with
   |true=>
    cases h2:decide (s[i]<=(122:UInt8)) with
    |true=>
     simp only[cond_true]
     rw[zz5 _ h1 h2]
     simpa only[up,h1,h2,cond_true] using ih
    |false=>
     simp only[cond_true,cond_false]
     simpa only[up,h1,h2,cond_true,cond_false] using ih
   |false=>
    simp only[cond_false]
    simpa only[up,h1,cond_false] using ih
  ·rw[zhO hi,yZ (by omega),yu (by omega),yv];rfl
theorem zev(s:LB)(hs:s.length<=20000):j1 200000 s=some (s.map up,()):=by
 unfold j1
 rw[show yP s.length zG=true by rw[vE];unfold zG;omega,cond_true]
 have:=zj9 200000 s (by omega) 200000 0 (by omega) (by omega)
 rw[vq,yz,vL,yj,show((0:Nat):Int)=0 from rfl] at this
 rw[this];rfl
theorem ziH(N:Nat)(s:LB)(hs:s.length<=100000):∀ (m i:Nat),i<=s.length->s.length<m+i ->
  xF N m s ((s.take i).map up) (i:Int)=some (s.map up)
 |0,i,h,h'=>by omega
 |m+1,i,h,h'=>by
  unfold xF zce
  by_cases hi:i<s.length
  ·have hn:nth .u8 s (yB (i:Int))=s[i]:=by rw[ym];exact wO hi
   have hcap:∀ c:UInt8,decide (((s.take i).map up).length+([c]:LB).length<4611686018427387904)=true:=fun c=>by
    rw[decide_eq_true_eq,yW,yL];simp;omega
   simp only[zhP hi,cond_true,jh hi,hcap]
   generalize nth .u8 s (yB (i:Int))=c at hn |-
   subst hn
   rw[wri (by omega) (by omega),show((i:Int)+1)=((i+1:Nat):Int) by omega]
   have ih:=ziH N s hs m (i+1) (by omega) (by omega)
   rw[vh hi,vG,show[s[i]].map up=[up s[i]] from rfl] at ih
   cases h1:decide ((97:UInt8)<=s[i]) with
   |true=>
    cases h2:decide (s[i]<=(122:UInt8)) with
    |true=>
     simp only[cond_true]
     simpa only[up,h1,h2,cond_true] using ih
    |false=>
     simp only[cond_true,cond_false]
     simpa only[up,h1,h2,cond_true,cond_false] using ih
   |false=>
    simp only[cond_false]
    simpa only[up,h1,cond_false] using ih
  ·rw[zhO hi,yZ (by omega)];rfl
theorem ziI(s:LB)(hs:s.length<=20000):zF 200000 s=some (s.map up,()):=by
 unfold zF
 have:=ziH 200000 s (by omega) 200000 0 (by omega) (by omega)
 rw[vq,vL,show((0:Nat):Int)=0 from rfl] at this
 rw[this];rfl
def zBp:List LB:=[([78,79,79,80]:LB),([76,79,71,79,85,84]:LB),([67,76,79,83,69]:LB),([69,88,80,85,78,71,69]:LB),([83,69,76,69,67,84]:LB),([65,80,80,69,78,68]:LB),([70,69,84,67,72]:LB),([83,84,79,82,69]:LB)]
theorem zt3(u:LB):zi 200000 200000 zBp u 8 0=(cond (u==([78,79,79,80]:LB)) (some (.inl 0)) (cond (u==([76,79,71,79,85,84]:LB)) (some (.inl 1)) (cond (u==([67,76,79,83,69]:LB)) (some (.inl 2)) (cond (u==([69,88,80,85,78,71,69]:LB)) (some (.inl 3)) (cond (u==([83,69,76,69,67,84]:LB)) (some (.inl 4)) (cond (u==([65,80,80,69,78,68]:LB)) (some (.inl 5)) (cond (u==([70,69,84,67,72]:LB)) (some (.inl 6)) (cond (u==([83,84,79,82,69]:LB)) (some (.inl 7)) (some (.inr ())))))))))):=by kernel_rfl
def items:List LB:=[([70,76,65,71,83]:LB),([85,73,68]:LB),([82,70,67,56,50,50,46,83,73,90,69]:LB),([66,79,68,89,46,80,69,69,75,91,93]:LB),([66,79,68,89,91,93]:LB)]
theorem zt2(u:LB):zi 200000 200000 items u 5 0=(cond (u==([70,76,65,71,83]:LB)) (some (.inl 0)) (cond (u==([85,73,68]:LB)) (some (.inl 1)) (cond (u==([82,70,67,56,50,50,46,83,73,90,69]:LB)) (some (.inl 2)) (cond (u==([66,79,68,89,46,80,69,69,75,91,93]:LB)) (some (.inl 3)) (cond (u==([66,79,68,89,91,93]:LB)) (some (.inl 4)) (some (.inr ()))))))):=by kernel_rfl
theorem zpL(a b:LB):(a==b)=(b==a):=by rw[vn,beq_iff_eq,beq_iff_eq];exact eq_comm
theorem zzh(s u:LB)(hU:zF 200000 s=some (u,())):zb 200000 200000 s 1=(cond (u==([78,79,79,80]:LB)) (some (.inl 1)) (cond (u==([76,79,71,79,85,84]:LB)) (some (.inl 2)) (cond (u==([67,76,79,83,69]:LB)) (some (.inl 3)) (cond (u==([69,88,80,85,78,71,69]:LB)) (some (.inl 4)) (cond (u==([83,69,76,69,67,84]:LB)) (some (.inl 5)) (cond (u==([65,80,80,69,78,68]:LB)) (some (.inl 6)) (cond (u==([70,69,84,67,72]:LB)) (some (.inl 7)) (cond (u==([83,84,79,82,69]:LB)) (some (.inl 8)) (some (.inr ())))))))))):=by
 have s0:zb 200000 200000 s 1=cond (u==([78,79,79,80]:LB)) (some (.inl 1)) (zb 200000 199999 s 2):=by
  rw[show zb 200000 200000 s 1=(yC (zF 200000 s) fun y=>cond (([78,79,79,80]:LB)==y.1) (some (.inl 1)) (zb 200000 199999 s 2)) from by kernel_rfl,hU,zpL u];rfl
 have s1:zb 200000 199999 s 2=cond (u==([76,79,71,79,85,84]:LB)) (some (.inl 2)) (zb 200000 199998 s 3):=by
  rw[show zb 200000 199999 s 2=(yC (zF 200000 s) fun y=>cond (([76,79,71,79,85,84]:LB)==y.1) (some (.inl 2)) (zb 200000 199998 s 3)) from by kernel_rfl,hU,zpL u];rfl
 have s2:zb 200000 199998 s 3=cond (u==([67,76,79,83,69]:LB)) (some (.inl 3)) (zb 200000 199997 s 4):=by
  rw[show zb 200000 199998 s 3=(yC (zF 200000 s) fun y=>cond (([67,76,79,83,69]:LB)==y.1) (some (.inl 3)) (zb 200000 199997 s 4)) from by kernel_rfl,hU,zpL u];rfl
 have s3:zb 200000 199997 s 4=cond (u==([69,88,80,85,78,71,69]:LB)) (some (.inl 4)) (zb 200000 199996 s 5):=by
  rw[show zb 200000 199997 s 4=(yC (zF 200000 s) fun y=>cond (([69,88,80,85,78,71,69]:LB)==y.1) (some (.inl 4)) (zb 200000 199996 s 5)) from by kernel_rfl,hU,zpL u];rfl
 have s4:zb 200000 199996 s 5=cond (u==([83,69,76,69,67,84]:LB)) (some (.inl 5)) (zb 200000 199995 s 6):=by
  rw[show zb 200000 199996 s 5=(yC (zF 200000 s) fun y=>cond (([83,69,76,69,67,84]:LB)==y.1) (some (.inl 5)) (zb 200000 199995 s 6)) from by kernel_rfl,hU,zpL u];rfl
 have s5:zb 200000 199995 s 6=cond (u==([65,80,80,69,78,68]:LB)) (some (.inl 6)) (zb 200000 199994 s 7):=by
  rw[show zb 200000 199995 s 6=(yC (zF 200000 s) fun y=>cond (([65,80,80,69,78,68]:LB)==y.1) (some (.inl 6)) (zb 200000 199994 s 7)) from by kernel_rfl,hU,zpL u];rfl
 have s6:zb 200000 199994 s 7=cond (u==([70,69,84,67,72]:LB)) (some (.inl 7)) (zb 200000 199993 s 8):=by
  rw[show zb 200000 199994 s 7=(yC (zF 200000 s) fun y=>cond (([70,69,84,67,72]:LB)==y.1) (some (.inl 7)) (zb 200000 199993 s 8)) from by kernel_rfl,hU,zpL u];rfl
 have s7:zb 200000 199993 s 8=cond (u==([83,84,79,82,69]:LB)) (some (.inl 8)) (zb 200000 199992 s 9):=by
  rw[show zb 200000 199993 s 8=(yC (zF 200000 s) fun y=>cond (([83,84,79,82,69]:LB)==y.1) (some (.inl 8)) (zb 200000 199992 s 9)) from by kernel_rfl,hU,zpL u];rfl
 rw[s0,s1,s2,s3,s4,s5,s6,s7]
 rw[show zb 200000 199992 s 9=some (.inr ()) from by kernel_rfl]
theorem zzg(s u:LB)(hU:zF 200000 s=some (u,())):zk 200000 200000 s 1=(cond (u==([70,76,65,71,83]:LB)) (some (.inl 1)) (cond (u==([85,73,68]:LB)) (some (.inl 2)) (cond (u==([82,70,67,56,50,50,46,83,73,90,69]:LB)) (some (.inl 4)) (cond (u==([66,79,68,89,46,80,69,69,75,91,93]:LB)) (some (.inl 8)) (cond (u==([66,79,68,89,91,93]:LB)) (some (.inl 16)) (some (.inr ()))))))):=by
 have s0:zk 200000 200000 s 1=cond (u==([70,76,65,71,83]:LB)) (some (.inl 1)) (zk 200000 199999 s 2):=by
  rw[show zk 200000 200000 s 1=(yC (zF 200000 s) fun y=>cond (([70,76,65,71,83]:LB)==y.1) (some (.inl 1)) (zk 200000 199999 s 2)) from by kernel_rfl,hU,zpL u];rfl
 have s1:zk 200000 199999 s 2=cond (u==([85,73,68]:LB)) (some (.inl 2)) (zk 200000 199998 s 4):=by
  rw[show zk 200000 199999 s 2=(yC (zF 200000 s) fun y=>cond (([85,73,68]:LB)==y.1) (some (.inl 2)) (zk 200000 199998 s 4)) from by kernel_rfl,hU,zpL u];rfl
 have s2:zk 200000 199998 s 4=cond (u==([82,70,67,56,50,50,46,83,73,90,69]:LB)) (some (.inl 4)) (zk 200000 199997 s 8):=by
  rw[show zk 200000 199998 s 4=(yC (zF 200000 s) fun y=>cond (([82,70,67,56,50,50,46,83,73,90,69]:LB)==y.1) (some (.inl 4)) (zk 200000 199997 s 8)) from by kernel_rfl,hU,zpL u];rfl
 have s3:zk 200000 199997 s 8=cond (u==([66,79,68,89,46,80,69,69,75,91,93]:LB)) (some (.inl 8)) (zk 200000 199996 s 16):=by
  rw[show zk 200000 199997 s 8=(yC (zF 200000 s) fun y=>cond (([66,79,68,89,46,80,69,69,75,91,93]:LB)==y.1) (some (.inl 8)) (zk 200000 199996 s 16)) from by kernel_rfl,hU,zpL u];rfl
 have s4:zk 200000 199996 s 16=cond (u==([66,79,68,89,91,93]:LB)) (some (.inl 16)) (zk 200000 199995 s 32):=by
  rw[show zk 200000 199996 s 16=(yC (zF 200000 s) fun y=>cond (([66,79,68,89,91,93]:LB)==y.1) (some (.inl 16)) (zk 200000 199995 s 32)) from by kernel_rfl,hU,zpL u];rfl
 rw[s0,s1,s2,s3,s4]
 rw[show zk 200000 199995 s 32=some (.inr ()) from by kernel_rfl]
theorem zl1(s:LB)(hs:s.length<=20000):∃ n:Int,ko 200000 s=some (n,decide (0<n),())/\zdO 200000 s=some (n,())/\0<=n/\n<=8:=by
 unfold ko zdO
 rw[zev s hs]
 simp only[ya]
 unfold zm
 rw[show zi 200000 200000 [([78,79,79,80]:LB),([76,79,71,79,85,84]:LB),([67,76,79,83,69]:LB),([69,88,80,85,78,71,69]:LB),([83,69,76,69,67,84]:LB),([65,80,80,69,78,68]:LB),([70,69,84,67,72]:LB),([83,84,79,82,69]:LB)] (s.map up) (((yc ([([78,79,79,80]:LB),([76,79,71,79,85,84]:LB),([67,76,79,83,69]:LB),([69,88,80,85,78,71,69]:LB),([83,69,76,69,67,84]:LB),([65,80,80,69,78,68]:LB),([70,69,84,67,72]:LB),([83,84,79,82,69]:LB)]:List LB)):Nat):Int) 0=_ from zt3 (s.map up),zzh s _ (ziI s hs)]
 generalize(s.map up==([78,79,79,80]:LB))=b0
 generalize(s.map up==([76,79,71,79,85,84]:LB))=b1
 generalize(s.map up==([67,76,79,83,69]:LB))=b2
 generalize(s.map up==([69,88,80,85,78,71,69]:LB))=b3
 generalize(s.map up==([83,69,76,69,67,84]:LB))=b4
 generalize(s.map up==([65,80,80,69,78,68]:LB))=b5
 generalize(s.map up==([70,69,84,67,72]:LB))=b6
 generalize(s.map up==([83,84,79,82,69]:LB))=b7
 cases b0 with
 |true=>exact⟨1,rfl,rfl,by omega⟩
 |false=>
  cases b1 with
  |true=>exact⟨2,rfl,rfl,by omega⟩
  |false=>
  cases b2 with
  |true=>exact⟨3,rfl,rfl,by omega⟩
  |false=>
   cases b3 with
   |true=>exact⟨4,rfl,rfl,by omega⟩
   |false=>
   cases b4 with
   |true=>exact⟨5,rfl,rfl,by omega⟩
   |false=>
    cases b5 with
    |true=>exact⟨6,rfl,rfl,by omega⟩
    |false=>
    cases b6 with
    |true=>exact⟨7,rfl,rfl,by omega⟩
    |false=>
     cases b7 with
     |true=>exact⟨8,rfl,rfl,by omega⟩
     |false=>
     exact⟨0,rfl,rfl,by omega⟩
theorem zlZ(s:LB)(hs:s.length<=20000):∃ n:Int,jF 200000 s=some (n,decide (0<n),())/\zdN 200000 s=some (n,())/\0<=n/\n<=16:=by
 unfold jF zdN
 rw[zev s hs]
 simp only[ya]
 unfold zm
 rw[show zi 200000 200000 [([70,76,65,71,83]:LB),([85,73,68]:LB),([82,70,67,56,50,50,46,83,73,90,69]:LB),([66,79,68,89,46,80,69,69,75,91,93]:LB),([66,79,68,89,91,93]:LB)] (s.map up) (((yc ([([70,76,65,71,83]:LB),([85,73,68]:LB),([82,70,67,56,50,50,46,83,73,90,69]:LB),([66,79,68,89,46,80,69,69,75,91,93]:LB),([66,79,68,89,91,93]:LB)]:List LB)):Nat):Int) 0=_ from zt2 (s.map up),zzg s _ (ziI s hs)]
 generalize(s.map up==([70,76,65,71,83]:LB))=b0
 generalize(s.map up==([85,73,68]:LB))=b1
 generalize(s.map up==([82,70,67,56,50,50,46,83,73,90,69]:LB))=b2
 generalize(s.map up==([66,79,68,89,46,80,69,69,75,91,93]:LB))=b3
 generalize(s.map up==([66,79,68,89,91,93]:LB))=b4
 cases b0 with
 |true=>exact⟨1,rfl,rfl,by omega⟩
 |false=>
  cases b1 with
  |true=>exact⟨2,rfl,rfl,by omega⟩
  |false=>
  cases b2 with
  |true=>exact⟨4,rfl,rfl,by omega⟩
  |false=>
   cases b3 with
   |true=>exact⟨8,rfl,rfl,by omega⟩
   |false=>
   cases b4 with
   |true=>exact⟨16,rfl,rfl,by omega⟩
   |false=>
    exact⟨0,rfl,rfl,by omega⟩
def xE(c:UInt8):LB->List LB
 | []=>[[]]
 |x::l=>if x==c then[]::xE c l else match xE c l with
  |h::t=>(x::h)::t
  | []=>[[x]]
theorem zds{c:UInt8}:∀ {l:LB},posOf c l=none->xE c l=[l]
 | [],h=>rfl
 |x::l,h=>by
  unfold posOf at h
  unfold xE
  cases hx:x==c with
  |true=>simp only[hx,if_true] at h;cases h
  |false=>
   simp only[hx,yG,if_false] at h |-
   split at h
   ·cases h
   ·rename_i hn;rw[zds hn]
theorem zfe{c:UInt8}:∀ {l:LB} {i:Nat},posOf c l=some i->xE c l=l.take i::xE c (l.drop (i+1))
 | [],i,h=>by cases h
 |x::l,i,h=>by
  unfold posOf at h
  conv=>lhs;unfold xE
  cases hx:x==c with
  |true=>simp only[hx,if_true] at h |-;cases h;rfl
  |false=>
   simp only[hx,yG,if_false] at h |-
   split at h
   ·rename_i j hj
    cases h
    rw[zfe hj];rfl
   ·cases h
theorem index_one(c:UInt8):∀ l:LB,Go.Lib.index l [c]=match posOf c l with
  |some i=>((i:Nat):Int)
  |none=>-1
 | []=>rfl
 |b::l=>by
  unfold Go.Lib.index posOf
  have hp:([c]:LB).isPrefixOf (b::l)=(b==c):=by
   rw[List.isPrefixOf_cons_cons,List.isPrefixOf_nil_left,yf]
   rw[vn,beq_iff_eq,beq_iff_eq];exact eq_comm
  rw[hp,index_one c l]
  cases b==c with
  |true=>rfl
  |false=>
   simp only[yG,if_false]
   cases posOf c l with
   |none=>rfl
   |some i=>
    simp only
    rw[if_neg (by rw[beq_iff_eq];omega)];rfl
theorem zmU(c:UInt8):∀ (k:Nat) (s:LB),s.length<=k->Go.Lib.splitK [c] 0 (Go.Lib.count s [c]) s=xE c s
 |0,s,h=>by
  have:s=[]:=List.eq_nil_of_length_eq_zero (by omega)
  subst this
  rw[Go.Lib.count_miss (by rfl)];rfl
 |k+1,s,h=>by
  cases hp:posOf c s with
  |none=>
   rw[Go.Lib.count_miss (by rw[index_one,hp]),zds hp];rfl
  |some i=>
   have hi:=zcW hp
   have hix:Go.Lib.index s [c]=((i:Nat):Int):=by rw[index_one,hp]
   rw[Go.Lib.count_hit (by simp) hix,Nat.add_comm 1]
   unfold Go.Lib.splitK
   rw[if_neg (by rw[hix,beq_iff_eq];omega),hix,ym,zfe hp]
   rw[vO]
   congr 1
   exact zmU c k (s.drop (i+1)) (by rw[yF];omega)
theorem ziR(c:UInt8)(s:LB):wN s [c]=xE c s:=by
 unfold wN
 rw[Go.Lib.splitB_data]
 exact zmU c s.length s (vo _)
theorem zj0(c:UInt8):∀ l:LB,0<(xE c l).length/\(xE c l).length<=l.length+1/\∀ p ∈ xE c l,p.length<=l.length
 | []=>⟨by simp [xE],by simp [xE],by simp [xE]⟩
 |x::l=>by
  obtain⟨h1,h2,h3⟩:=zj0 c l
  unfold xE
  split
  ·refine⟨by simp,by simp;omega,fun p hp=>?_⟩
   simp only[yJ] at hp
   rcases hp with rfl|hp
   ·simp
   ·have:=h3 p hp;simp;omega
  ·split
   ·rename_i h t he
    rw[he] at h1 h2 h3
    refine⟨by simp,by simp at h2 |-;omega,fun p hp=>?_⟩
    simp only[yJ] at hp
    rcases hp with rfl|hp
    ·have:=h3 h (by simp);simp;omega
    ·have:=h3 p (by simp [hp]);simp;omega
   ·rename_i he
    rw[he] at h1;simp at h1
def zom(s:LB):Option Nat:=if s=[42] then some 0 else match zeD s with
 |some v=>if v=0 then none else some v
 |none=>none
def zs1(s:LB)(o:Option (Int×Bool×Unit)):Prop:=match zom s with
 |some v=>o=some (((v:Nat):Int),true,())
 |none=>∃ x,o=some (x,false,())
theorem zc0(s:LB)(hs:s.length<=20000):zs1 s (qv 200000 s):=by
 unfold zs1 zom qv
 by_cases h:s=[42]
 ·subst h;rfl
 ·have e:(s==([42]:LB))=false:=by simpa using h
  simp only[e,cond_false,if_neg h]
  rw[zk1 200000 (by omega) s (by omega)]
  unfold zuv
  simp only[ya]
  cases zeD s with
  |none=>exact⟨_,rfl⟩
  |some v=>
   simp only[cond_true]
   by_cases hv:v=0
   ·subst hv;exact⟨_,rfl⟩
   ·rw[if_neg hv]
    have:(((v:Nat):Int) != 0)=true:=by simp;omega
    simp only[this]
def zf4(s:LB):Option (Int×Int):=match posOf 58 s with
 |none=>match zom s with
  |some v=>some (((v:Nat):Int),((v:Nat):Int))
  |none=>none
 |some i=>match zom (s.take i),zom (s.drop (i+1)) with
  |some a,some b=>some (((a:Nat):Int),((b:Nat):Int))
  |_,_=>none
def zb6:List LB->Option (List (Int×Int))
 | []=>some []
 |s::l=>match zf4 s,zb6 l with
  |some r,some t=>some (r::t)
  |_,_=>none
def zaD(s:LB):Option ((List (Int×Int))×Bool×Unit):=some (match zb6 (xE 44 s) with
 |some l=>(l,true,())
 |none=>([],false,()))
theorem zyJ(s:LB):(([58]:LB)==s)=true↔s=[58]:=by rw[beq_iff_eq];exact eq_comm
theorem zCB(s:LB):qI 200000 s 58=some (ke 58 s 0,()):=rfl
theorem zgQ{a b:LB}(oa ob:Option (Int×Bool×Unit))(ha:zs1 a oa)(hb:zs1 b ob)(R:Type)(f:Int×Int->Option R)(g:Option R):
  (yC oa fun y1=>yC ob fun y2=>cond (!y1.2.1) g (cond (!y2.2.1) g (f (y1.1,y2.1))))=match zom a,zom b with
   |some x,some y=>f (((x:Nat):Int),((y:Nat):Int))
   |_,_=>g:=by
 unfold zs1 at ha hb
 cases h1:zom a with
 |none=>
  rw[h1] at ha
  obtain⟨x,rfl⟩:=ha
  cases h2:zom b with
  |none=>rw[h2] at hb;obtain⟨y,rfl⟩:=hb;rfl
  |some v=>rw[h2] at hb;subst hb;rfl
 |some u=>
  rw[h1] at ha
  subst ha
  cases h2:zom b with
  |none=>rw[h2] at hb;obtain⟨y,rfl⟩:=hb;rfl
  |some v=>rw[h2] at hb;subst hb;rfl
theorem zzc(parts:List LB)(hp:parts.length<=20001)(hq:∀ p ∈ parts,p.length<=20000):∀ (m i:Nat) (out:List (Int×Int)),i<=parts.length->out.length<=i->parts.length<m+i ->
  match zb6 (parts.drop i) with
  |some l=>zD 200000 m ((parts.length:Nat):Int) ((i:Nat):Int) parts out=some (Sum.inr (parts,out++l))
  |none=>∃ o,zD 200000 m ((parts.length:Nat):Int) ((i:Nat):Int) parts out=some (Sum.inl (parts,o))
 |0,i,out,h,ho,h'=>by omega
 |m+1,i,out,h,ho,h'=>by
  unfold zD zbd
  by_cases hi:i<parts.length
  ·have hs:parts[i].length<=20000:=hq _ (yM hi)
   have w1:yr .i64 (((i:Nat):Int)+1)=((i+1:Nat):Int):=by rw[wri (by omega) (by omega)];omega
   simp only[zhP hi,cond_true,jh hi,ym,wO (u:=.str) hi,w1,zaj (show out.length+1<=200000 by omega),zCB,zih,ya]
   rw[drop_one hi]
   unfold zb6
   generalize parts[i]=s at hs
   have ihs:=fun r:Int×Int=>zzc parts hp hq m (i+1) (out++[r]) (by omega) (by simp;omega) (by omega)
   have fin:∀ (o:Option (List LB×List (Int×Int) ⊕ List LB×List (Int×Int))),(o=match zf4 s with
     |some r=>zD 200000 m ((parts.length:Nat):Int) ((i+1:Nat):Int) parts (out++[r])
     |none=>some (Sum.inl (parts,out)))->match(match zf4 s,zb6 (parts.drop (i+1)) with
      |some r,some t=>some (r::t)
      |_,_=>none) with
     |some l=>o=some (Sum.inr (parts,out++l))
     |none=>∃ o',o=some (Sum.inl (parts,o')):=by
    intro o ho
    subst ho
    cases hr:zf4 s with
    |none=>exact⟨_,rfl⟩
    |some r=>
     have ih:=ihs r
     cases ht:zb6 (parts.drop (i+1)) with
     |none=>rw[ht] at ih;exact ih
     |some t=>rw[ht] at ih;simp only at ih |-;rw[ih,yE];rfl
   by_cases h58:s=[58]
   ·subst h58
    simp only[show(([58]:LB)==[58])=true from rfl,cond_true]
    have hb1:wo (0:Int) (0:Int) (yc ([58]:LB))=true:=rfl
    have hb2:wo (1:Int) (((yc ([58]:LB)):Nat):Int) (yc ([58]:LB))=true:=rfl
    simp only[hb1,hb2,cond_true]
    refine fin _ ?_
    refine(zgQ _ _ (zc0 (slice [58] 0 0) (by simp [slice])) (zc0 (slice [58] 1 ([58]:LB).length) (by simp [slice])) _ (fun r=>zD 200000 m ((parts.length:Nat):Int) ((i+1:Nat):Int) parts (out++[r])) (some (Sum.inl (parts,out)))).trans ?_
    rfl
   ·have e58:(([58]:LB)==s)=false:=by
     cases e:([58]:LB)==s with
     |false=>rfl
     |true=>exact absurd ((zyJ s).1 e) h58
    simp only[e58,cond_false]
    cases hpos:posOf 58 s with
    |none=>
     simp only[show decide ((0:Int) <= -1)=false from rfl,cond_false]
     refine fin _ ?_
     refine(zgQ _ _ (zc0 s hs) (zc0 s hs) _ (fun r=>zD 200000 m ((parts.length:Nat):Int) ((i+1:Nat):Int) parts (out++[r])) (some (Sum.inl (parts,out)))).trans ?_
     unfold zf4
     rw[hpos]
     cases zom s<;>rfl
    |some k=>
     obtain⟨q1,q2,q3⟩:=zcW hpos
     simp only[vz]
     have d0:decide ((0:Int)<=((k:Nat):Int))=true:=by simp
     have w2:yr .i64 (((k:Nat):Int)+1)=((k+1:Nat):Int):=by rw[wri (by omega) (by omega)];omega
     have hb1:wo (0:Int) ((k:Nat):Int) s.length=true:=by
      have:=wR (a:=0) (b:=k) (n:=s.length) (by omega) (by omega)
      rwa [show((0:Nat):Int)=(0:Int) from rfl] at this
     have hb2:wo ((k+1:Nat):Int) ((s.length:Nat):Int) s.length=true:=wR (by omega) (by omega)
     simp only[d0,cond_true,w2,hb1,hb2,ym,wL,zc2]
     refine fin _ ?_
     refine(zgQ _ _ (zc0 (s.take k) (by rw[yL];omega)) (zc0 (s.drop (k+1)) (by rw[yF];omega)) _ (fun r=>zD 200000 m ((parts.length:Nat):Int) ((i+1:Nat):Int) parts (out++[r])) (some (Sum.inl (parts,out)))).trans ?_
     unfold zf4
     rw[hpos]
     simp only
     cases zom (s.take k) with
     |none=>rfl
     |some a=>cases zom (s.drop (k+1))<;>rfl
  ·simp only[zhO hi,cond_false]
   rw[yO (by omega)]
   simp only[zb6,yv]
theorem zuP(s:LB)(hs:s.length<=20000):wk 200000 s=zaD s:=by
 unfold wk zaD
 have hb:vi s.length zd1=true:=by rw[vP];unfold zd1;omega
 obtain⟨l1,l2,l3⟩:=zj0 44 s
 have:=zzc (xE 44 s) (by omega) (fun p hp=>by have:=l3 p hp;omega) 200000 0 [] (by omega) (by simp) (by omega)
 rw[show((0:Nat):Int)=(0:Int) from rfl,yz] at this
 simp only[hb,cond_true,ziR]
 cases hr:zb6 (xE 44 s) with
 |some l=>rw[hr] at this;simp only at this;rw[this];rfl
 |none=>rw[hr] at this;obtain⟨o,h⟩:=this;rw[h];rfl
def flA:LB:=[92,65,78,83,87,69,82,69,68]
def flF:LB:=[92,70,76,65,71,71,69,68]
def flD:LB:=[92,68,69,76,69,84,69,68]
def flE:LB:=[92,83,69,69,78]
def flR:LB:=[92,68,82,65,70,84]
def flT:List (LB×UInt8):=[(flA,1),(flF,2),(flD,4),(flE,8),(flR,16)]
def flS(s:LB):Option Nat:=
 if s.map up=flA then some 1 else if s.map up=flF then some 2 else if s.map up=flD then some 4 else if s.map up=flE then some 8 else if s.map up=flR then some 16 else none
theorem zrj{s:LB}{n:Nat}(h:flS s=some n):0<n/\n<32:=by
 unfold flS at h
 split at h
 ·cases h;omega
 ·split at h
  ·cases h;omega
  ·split at h
   ·cases h;omega
   ·split at h
    ·cases h;omega
    ·split at h
     ·cases h;omega
     ·cases h
theorem zy0(u:LB):zcQ .str .u8 flT u=if u=flA then some 1 else if u=flF then some 2 else if u=flD then some 4 else if u=flE then some 8 else if u=flR then some 16 else none:=by
 show cond (u==flA) (some 1) (cond (u==flF) (some 2) (cond (u==flD) (some 4) (cond (u==flE) (some 8) (cond (u==flR) (some 16) none))))=_
 have h:∀ (x:LB) (a b:Option UInt8),cond (u==x) a b=if u=x then a else b:=fun x a b=>by
  cases e:u==x with
  |true=>rw[beq_iff_eq] at e;rw[if_pos e];rfl
  |false=>rw[if_neg (by simpa using e)];rfl
 simp only[h]
theorem zyZ(s:LB):zcQ .str .u8 flT (s.map up)=(flS s).map yq:=by
 rw[zy0]
 unfold flS
 split
 ·rfl
 ·split
  ·rfl
  ·split
   ·rfl
   ·split
    ·rfl
    ·split<;>rfl
theorem zcM(s:LB)(hs:s.length<=20000)(h0:s≠[])(h32:posOf 32 s=none):wQ 200000 ((([40]:LB)++s)++([41]:LB))=some (match flS s with
  |some n=>(yq n,true,())
  |none=>(0,false,())):=by
 have e1:jS 200000 ((([40]:LB)++s)++([41]:LB)) ([40]:LB)=some (s++[41],true,()):=by
  unfold jS jB jC
  have hl:(([40]++s)++[41]:LB).length=s.length+2:=by simp
  have c1:decide ((((yc ([40]:LB)):Nat):Int)<=(((yc ((([40]:LB)++s)++([41]:LB))):Nat):Int))=true:=by rw[hl];simp;omega
  have c2:wo (0:Int) (((yc ([40]:LB)):Nat):Int) (yc ((([40]:LB)++s)++([41]:LB)))=true:=by
   have:=wR (a:=0) (b:=1) (n:=(([40]++s)++[41]:LB).length) (by omega) (by rw[hl];omega)
   exact this
  have c3:wo (((yc ([40]:LB)):Nat):Int) (((yc ((([40]:LB)++s)++([41]:LB))):Nat):Int) (yc ((([40]:LB)++s)++([41]:LB)))=true:=wR (by rw[hl];simp) (vo _)
  simp only[c1,c2,c3,cond_true,ya,ym,zc2]
  rfl
 have e2:qg 200000 (s++[41]) ([41]:LB)=some (s,true,()):=by
  unfold qg qG qH
  have hl:(s++[41]:LB).length=s.length+1:=by simp
  have w:yr .i64 ((((yc (s++[41]:LB)):Nat):Int)-(((yc ([41]:LB)):Nat):Int))=((s.length:Nat):Int):=by rw[hl,wri (by simp) (by simp;omega)];simp
  have c1:decide ((((yc ([41]:LB)):Nat):Int)<=(((yc (s++[41]:LB)):Nat):Int))=true:=by rw[hl];simp;omega
  have c2:wo ((s.length:Nat):Int) (((yc (s++[41]:LB)):Nat):Int) (yc (s++[41]:LB))=true:=wR (by rw[hl];omega) (vo _)
  have c3:wo (0:Int) ((s.length:Nat):Int) (yc (s++[41]:LB))=true:=by
   have:=wR (a:=0) (b:=s.length) (n:=(s++[41]:LB).length) (by omega) (by rw[hl];omega)
   exact this
  have q1:(s++[41]:LB).drop s.length=[41]:=by simp
  have q2:(s++[41]:LB).take s.length=s:=by simp
  simp only[w,c1,c2,c3,cond_true,ya,ym,zc2,wL,q1,q2,show(([41]:LB)==[41])=true from rfl,yb,cond_false]
 unfold wQ
 have e3:(s==([]:LB))=false:=by simpa using h0
 have e4:zbJ 200000 (31:UInt8)=some ([1,2,4,8,16],()):=by kernel_rfl
 have e5:jn 200000 200000 [1,2,4,8,16] (((yc ([1,2,4,8,16]:LB)):Nat):Int) (0:Int) ([]:List (LB×UInt8))=some flT:=by kernel_rfl
 have e6:vi (yc s) zd1=true:=by rw[vP];unfold zd1;omega
 simp only[e1,e2,ya,yb,cond_false,e3,e4,e5,e6,cond_true,ziR,zds h32]
 unfold qK zab
 have c1:decide ((0:Int)<(((yc [s]):Nat):Int))=true:=rfl
 have c2:inb (0:Int) (yc [s])=true:=rfl
 simp only[c1,c2,cond_true,show nth .str [s] (yB 0)=s from rfl,zev s (by omega),ya,zyZ]
 cases flS s with
 |none=>rfl
 |some n=>
  simp only[yp,Option.isSome_some,yb,cond_false,Option.getD_some]
  unfold qK zab
  have w1:yr .i64 ((0:Int)+1)=1:=rfl
  have c3:decide ((1:Int)<(((yc [s]):Nat):Int))=false:=rfl
  simp only[w1,c3,cond_false,ya,ze]
  rw[show(0:UInt8) ||| yq n=yq n from UInt8.zero_or]
theorem z8(a k:Int):za 200000 [a] k=some (k==a,()):=by
 unfold za qQ
 rw[show zH 200000 200000 [a] k (((yc [a]):Nat):Int) 0=cond (k==a) (some (.inl 0)) (some (.inr ())) from by kernel_rfl]
 cases k==a<;>rfl
theorem zi6(a b c k:Int):za 200000 [a,b,c] k=some (k==a||k==b||k==c,()):=by
 unfold za qQ
 rw[show zH 200000 200000 [a,b,c] k (((yc [a,b,c]):Nat):Int) 0=cond (k==a) (some (.inl 0)) (cond (k==b) (some (.inl 1)) (cond (k==c) (some (.inl 2)) (some (.inr ())))) from by kernel_rfl]
 cases k==a<;>cases k==b<;>cases k==c<;>rfl
def zgF(c:UInt8):Bool:=cond (za0 c) true (c==93)
theorem zBS(N:Nat)(c:UInt8):zU N c=some (zgF c,()):=by
 unfold zU
 rw[zBT]
 simp only[ya]
 unfold zgF
 cases za0 c<;>rfl
theorem zvw(N:Nat)(s:LB)(hs:s.length<=100000):∀ (m i:Nat),i<=s.length->s.length<m+i ->
  qb N m s (s.length:Int) (i:Int)=some (if(s.drop i).all zgF=true then Sum.inr () else Sum.inl ())
 |0,i,h,h'=>by omega
 |m+1,i,h,h'=>by
  unfold qb zaQ
  by_cases hi:i<s.length
  ·simp only[zhP hi,cond_true,jh hi,ym,wO (u:=.u8) hi,zBS,ya,drop_one hi,yH]
   cases hc:zgF s[i] with
   |true=>
    simp only[yb,cond_false,yA]
    rw[wri (by omega) (by omega),show((i:Int)+1)=((i+1:Nat):Int) by omega]
    exact zvw N s hs m (i+1) (by omega) (by omega)
   |false=>simp
  ·simp only[zhO hi,cond_false]
   rw[yO (by omega)]
   simp
theorem zvx(N:Nat)(s:LB)(hs:s.length<=100000):∀ (m i:Nat),i<=s.length->s.length<m+i ->
  qc N m s (s.length:Int) (i:Int)=some (if(s.drop i).all zgF=true then Sum.inr () else Sum.inl ())
 |0,i,h,h'=>by omega
 |m+1,i,h,h'=>by
  unfold qc zaR
  by_cases hi:i<s.length
  ·simp only[zhP hi,cond_true,jh hi,ym,wO (u:=.u8) hi,zBS,ya,drop_one hi,yH]
   cases hc:zgF s[i] with
   |true=>
    simp only[yb,cond_false,yA]
    rw[wri (by omega) (by omega),show((i:Int)+1)=((i+1:Nat):Int) by omega]
    exact zvx N s hs m (i+1) (by omega) (by omega)
   |false=>simp
  ·simp only[zhO hi,cond_false]
   rw[yO (by omega)]
   simp
def zpM(t:Tok):Bool:=if t.1=4 then t.2.1.all zgF else(t.1==5||t.1==6)
theorem zsx{p:UInt8->Bool}{c:UInt8}(hc:p c=false):∀ {l:LB},l.all p=true->posOf c l=none:=by
 intro l h
 cases hp:posOf c l with
 |none=>rfl
 |some i=>
  obtain⟨h1,h2,_⟩:=zcW hp
  have h3:=yy.1 h c (List.mem_of_getElem? h2)
  rw[hc] at h3;cases h3
def xQ(t:Tok):Prop:=(1<=t.1/\t.1<=6)/\t.2.1.length<=20000/\(t.1=4->t.2.1≠[]/\posOf 32 t.2.1=none)
theorem zxb{b:LB}{i n:Nat}{t:Tok}(hb:b.length<=20000)(hi:i<b.length)(h:kG b i=some (t,n)):xQ t:=by
 unfold kG at h
 rw[vt hi] at h
 simp only at h
 unfold xQ
 split at h
 ·cases h;simp
 ·split at h
  ·cases h;simp
  ·split at h
   ·cases h;simp
   ·split at h
    ·split at h
     ·rename_i r k hr
      have:=zpy _ hr
      rw[yF] at this
      cases h
      refine⟨⟨by simp,by simp⟩,by simp only;omega,by simp⟩
     ·cases h
    ·split at h
     ·split at h
      ·cases h
      ·split at h
       ·cases h
       ·split at h
        ·cases h
         refine⟨⟨by simp,by simp⟩,?_,by simp⟩
         simp only
         exact vj j9 hb
        ·cases h
     ·split at h
      ·rename_i hr
       have hle:=zpp qA (b.drop i)
       rw[yF] at hle
       cases h
       refine⟨⟨by simp,by simp⟩,vj j9 hb,fun _=>?_⟩
       have e:slice b i (i+run qA (b.drop i))=(b.drop i).take (run qA (b.drop i)):=by
        unfold slice;congr 1;omega
       refine⟨?_,?_⟩
       ·simp only[e]
        intro h0
        have:=congrArg yc h0
        rw[yL,yF] at this
        simp at this;omega
       ·simp only[e]
        exact zsx (p:=qA) (by kernel_rfl) (zlh qA _)
      ·cases h
theorem ztq{b:LB}(hb:b.length<=20000):∀ (f i:Nat) (l:List Tok),i<=b.length->zdt b f i=.inl l ->
  ∃ (p:List Tok) (e:Tok),l=p++[e]/\e.1=0/\(∀ t ∈ p,xQ t)/\p.length+i<=b.length
 |0,i,l,hi,h=>by cases h
 |f+1,i,l,hi,h=>by
  unfold zdt at h
  cases hn:kG b i with
  |none=>rw[hn] at h;cases h
  |some q=>
   obtain⟨t,n⟩:=q
   rw[hn] at h
   simp only at h
   by_cases hl:b.length<=i
   ·rw[if_pos hl] at h
    cases h
    exact⟨[],t,rfl,(zA9 hn).2 hl,(fun _ h=>by cases h),by simpa using hi⟩
   ·rw[if_neg hl] at h
    have hnl:=zpf (by omega) hn
    cases hr:zdt b f n with
    |inr a=>rw[hr] at h;cases h
    |inl l'=>
     rw[hr] at h
     cases h
     obtain⟨p,e,h1,h2,h3,h4⟩:=ztq hb f n l' hnl.2 hr
     refine⟨t::p,e,by rw[h1];rfl,h2,fun u hu=>?_,by simp only[yh];omega⟩
     rcases yJ.1 hu with rfl|hu
     ·exact zxb hb (by omega) hn
     ·exact h3 u hu
def kc(t:Tok):UInt8:=nth .u8 [101,115,40,41,119,113,108] t.1.toNat
def zbw(s:LB):Int:=match zdO 200000 s with
 |some (n,_)=>n
 |none=>0
def zdg(s:LB):Int:=match zdN 200000 s with
 |some (n,_)=>n
 |none=>0
theorem zrA(s:LB)(hs:s.length<=20000):ko 200000 s=some (zbw s,decide (0<zbw s),()):=by
 obtain⟨n,h1,h2,_⟩:=zl1 s hs
 unfold zbw
 rw[h2,h1]
theorem zdY(s:LB)(hs:s.length<=20000):jF 200000 s=some (zdg s,decide (0<zdg s),()):=by
 obtain⟨n,h1,h2,_⟩:=zlZ s hs
 unfold zdg
 rw[h2,h1]
theorem zt5(s:LB)(hs:s.length<=20000):0<=zbw s/\zbw s<=8:=by
 obtain⟨n,h1,h2,h3⟩:=zl1 s hs
 unfold zbw
 rw[h2];exact h3
theorem zkD(s:LB)(hs:s.length<=20000):0<=zdg s/\zdg s<=16:=by
 obtain⟨n,h1,h2,h3⟩:=zlZ s hs
 unfold zdg
 rw[h2];exact h3
def zwM(s:LB):Int:=match flS s with
 |some n=>((n:Nat):Int)
 |none=>0
def vW(items:Bool)(s:LB):Int:=cond items (zdg s) (zwM s)
def zO{A:Type}(f:LB->Option A)(op:A->A->A):A->List Tok->Option A
 |_,[]=>none
 |a,[t]=>if t.1=4 then(f t.2.1).map (op a) else none
 |a,t::s::r=>if t.1=4 then(match f t.2.1 with
  |none=>none
  |some x=>if s.1=1 then zO f op (op a x) r else none) else none
def fW(items:Bool)(s:LB):Option Int:=if vW items s=0 then none else some (vW items s)
def orI(a b:Int):Int:=zbu .or .i64 a b
def fP(s:LB):Option UInt8:=(flS s).map yq
def orP(a b:UInt8):UInt8:=a ||| b
theorem zzb{a b:Nat}(ha:a<32)(hb:b<32):∃ c:Nat,orI ((a:Nat):Int) ((b:Nat):Int)=((c:Nat):Int)/\c<32/\yq a ||| yq b=yq c:=by
 have h:((yR 32).all fun a=>(yR 32).all fun b=>decide (0<=orI ((a:Nat):Int) ((b:Nat):Int))&&(decide ((orI ((a:Nat):Int) ((b:Nat):Int)).toNat<32)&&((yq a ||| yq b)==yq (orI ((a:Nat):Int) ((b:Nat):Int)).toNat)))=true:=by kernel_rfl
 have h1:=yy.1 (yy.1 h a (yI.2 ha)) b (yI.2 hb)
 simp only[yn,decide_eq_true_eq,beq_iff_eq] at h1
 exact⟨_,(Int.toNat_of_nonneg h1.1).symm,h1.2.1,h1.2.2⟩
theorem zkw{s:LB}(h:flS s=none):fW false s=none/\fP s=none:=by
 have e:vW false s=0:=by unfold vW zwM;rw[cond_false,h]
 refine⟨?_,?_⟩
 ·unfold fW;rw[if_pos e]
 ·unfold fP;rw[h];rfl
theorem zkx{s:LB}{n:Nat}(h:flS s=some n):fW false s=some ((n:Nat):Int)/\fP s=some (yq n):=by
 have e:vW false s=((n:Nat):Int):=by unfold vW zwM;rw[cond_false,h]
 have:=zrj h
 refine⟨?_,?_⟩
 ·unfold fW;rw[if_neg (by rw[e];omega),e]
 ·unfold fP;rw[h];rfl
theorem zpF:∀ (l:List Tok) (a:Nat),a<32->∃ o:Option Nat,(∀ x,o=some x->x<32)/\zO (fW false) orI ((a:Nat):Int) l=o.map (fun x=>((x:Nat):Int))/\zO fP orP (yq a) l=o.map yq
 | [],a,ha=>⟨none,(fun x h=>by cases h),rfl,rfl⟩
 | [t],a,ha=>by
  by_cases h4:t.1=4
  ·simp only[zO,if_pos h4]
   cases hf:flS t.2.1 with
   |none=>
    rw[(zkw hf).1,(zkw hf).2]
    exact⟨none,(fun x h=>by cases h),rfl,rfl⟩
   |some n=>
    obtain⟨h1,h2⟩:=zrj hf
    obtain⟨c,c1,c2,c3⟩:=zzb ha h2
    rw[(zkx hf).1,(zkx hf).2]
    refine⟨some c,(fun x h=>by cases h;exact c2),?_,?_⟩
    ·simp only[yp,c1]
    ·simp only[yp,orP,c3]
  ·simp only[zO,if_neg h4]
   exact⟨none,(fun x h=>by cases h),rfl,rfl⟩
 |t::s::r,a,ha=>by
  by_cases h4:t.1=4
  ·simp only[zO,if_pos h4]
   cases hf:flS t.2.1 with
   |none=>
    rw[(zkw hf).1,(zkw hf).2]
    exact⟨none,(fun x h=>by cases h),rfl,rfl⟩
   |some n=>
    obtain⟨h1,h2⟩:=zrj hf
    obtain⟨c,c1,c2,c3⟩:=zzb ha h2
    rw[(zkx hf).1,(zkx hf).2]
    simp only[c1,orP,c3]
    by_cases hs:s.1=1
    ·simp only[if_pos hs]
     exact zpF r c c2
    ·simp only[if_neg hs]
     exact⟨none,(fun x h=>by cases h),rfl,rfl⟩
  ·simp only[zO,if_neg h4]
   exact⟨none,(fun x h=>by cases h),rfl,rfl⟩
theorem znw{s:LB}(h:zdg s=0):fW true s=none:=by
 unfold fW;rw[if_pos (show vW true s=0 from h)]
theorem znx{s:LB}(h:¬ zdg s=0):fW true s=some (zdg s):=by
 unfold fW;rw[if_neg (show ¬ vW true s=0 from h)];rfl
theorem wg{α:Type}(t:α)(r:List α):inb (0:Int) (yc (t::r))=true:=jh (i:=0) (by simp)
theorem wh(t:Tok)(r:List Tok):nth uS1 (@yN Tok t r) 0=t:=rfl
theorem zy{α:Type}(t:α)(r:List α):zf (t::r) 1=r:=by rw[zcl];rfl
theorem zn{α:Type}(t:α)(r:List α):jf (1:Int) (t::r)=true:=zdS (a:=1) (by simp)
theorem zkL(y1:LB)(y2:Int)(y3:LB)(z:Tok)(q:List Tok)(hz:z.1=0\/z.1=3):∀ (p:List Tok) (a:UInt8) (m:Nat),(∀ t ∈ p,xQ t/\t.1≠3)->p.length<m ->
  match zO fP orP a p with
  |some x=>(z.1=3->zA 200000 m (p++z::q) y1 y2 y3 a=some (.inr (z::q,y1,y2,y3,x)))/\(z.1≠3->∃ y,zA 200000 m (p++z::q) y1 y2 y3 a=some (.inl y))
  |none=>∃ y,zA 200000 m (p++z::q) y1 y2 y3 a=some (.inl y)
 |_,_,0,_,h=>by omega
 | [],a,m+1,hp,h=>by
  have e4:(z.1==(4:Int))=false:=by rcases hz with e|e<;>rw[e]<;>rfl
  simp only[zO,yj]
  unfold zA j2
  simp only[wg,cond_true,z8,wh,ya,e4,yd]
  exact⟨_,rfl⟩
 | [t],a,m+1,hp,h=>by
  obtain⟨hok,hk⟩:=hp t (yk ..)
  have e1:(z.1==(1:Int))=false:=by rcases hz with e|e<;>rw[e]<;>rfl
  simp only[ye,yj]
  have hl1:decide (yc ([40]:LB)+yc (nth uS1 (@yN Tok t (z::q)) 0).2.1<4611686018427387904)=true:=by
   show decide (yc ([40]:LB)+yc t.2.1<4611686018427387904)=true
   have:=hok.2.1;simp;omega
  have hl2:decide (yc (([40]:LB)++(nth uS1 (@yN Tok t (z::q)) 0).2.1)+yc ([41]:LB)<4611686018427387904)=true:=by
   show decide (yc (([40]:LB)++t.2.1)+yc ([41]:LB)<4611686018427387904)=true
   have:=hok.2.1;simp;omega
  unfold zA j2
  simp only[wg,cond_true,z8,ya,zy,zn,yf,hl1,hl2]
  simp only[wh]
  by_cases h4:t.1=4
  ·have e4:(t.1==(4:Int))=true:=by rw[beq_iff_eq];exact h4
   obtain⟨h0,h32⟩:=hok.2.2 h4
   have hne:(t.2.1 != ([]:LB))=true:=by simpa using h0
   simp only[e4,yb,cond_false,zcM _ hok.2.1 h0 h32,zO,if_pos h4,fP]
   cases hf:flS t.2.1 with
   |none=>
    simp only[ya,cond_false,yx]
    exact⟨_,rfl⟩
   |some n=>
    simp only[ya,cond_true,yp,hne,yb,cond_false,orP]
    by_cases hzk:z.1=3
    ·have e5:(z.1==(3:Int))=true:=by rw[beq_iff_eq];exact hzk
     simp only[e5,cond_true]
     exact⟨fun _=>(by first|rfl|trivial),fun h=>absurd hzk h⟩
    ·have e5:(z.1==(3:Int))=false:=by simpa using hzk
     simp only[e5,cond_false,e1,yd,cond_true]
     exact⟨fun h=>absurd h hzk,fun _=>⟨_,rfl⟩⟩
  ·have e4:(t.1==(4:Int))=false:=by simpa using h4
   simp only[zO,if_neg h4,e4,yd,cond_true]
   exact⟨_,rfl⟩
 |t::s::r,a,m+1,hp,h=>by
  obtain⟨hok,hk⟩:=hp t (yk ..)
  obtain⟨hok2,hk2⟩:=hp s (yg _ (yk ..))
  have ek:(s.1==(3:Int))=false:=by simpa using hk2
  simp only[ye]
  have hl1:decide (yc ([40]:LB)+yc (nth uS1 (@yN Tok t (s::(r++z::q))) 0).2.1<4611686018427387904)=true:=by
   show decide (yc ([40]:LB)+yc t.2.1<4611686018427387904)=true
   have:=hok.2.1;simp;omega
  have hl2:decide (yc (([40]:LB)++(nth uS1 (@yN Tok t (s::(r++z::q))) 0).2.1)+yc ([41]:LB)<4611686018427387904)=true:=by
   show decide (yc (([40]:LB)++t.2.1)+yc ([41]:LB)<4611686018427387904)=true
   have:=hok.2.1;simp;omega
  unfold zA j2
  simp only[wg,cond_true,z8,ya,zy,zn,yf,hl1,hl2]
  simp only[wh]
  by_cases h4:t.1=4
  ·have e4:(t.1==(4:Int))=true:=by rw[beq_iff_eq];exact h4
   obtain⟨h0,h32⟩:=hok.2.2 h4
   have hne:(t.2.1 != ([]:LB))=true:=by simpa using h0
   simp only[e4,yb,cond_false,zcM _ hok.2.1 h0 h32,zO,if_pos h4,fP]
   cases hf:flS t.2.1 with
   |none=>
    simp only[ya,cond_false,yx]
    exact⟨_,rfl⟩
   |some n=>
    simp only[ya,cond_true,yp,hne,yb,cond_false,orP]
    simp only[ek,cond_false]
    by_cases hs:s.1=1
    ·have e5:(s.1==(1:Int))=true:=by rw[beq_iff_eq];exact hs
     simp only[e5,yb,cond_false,if_pos hs]
     exact zkL y1 y2 y3 z q hz r _ m (fun u hu=>hp u (yg _ (yg _ hu))) (by simp only[yh] at h;omega)
    ·have e5:(s.1==(1:Int))=false:=by simpa using hs
     simp only[e5,yd,cond_true,if_neg hs]
     exact⟨_,rfl⟩
  ·have e4:(t.1==(4:Int))=false:=by simpa using h4
   simp only[zO,if_neg h4,e4,yd,cond_true]
   exact⟨_,rfl⟩
theorem zit(y1:LB)(y2:Int)(y3:List (Int×Int))(y4:Int)(y5:Bool)(z:Tok)(q:List Tok)(hz:z.1=0\/z.1=3):∀ (p:List Tok) (a:UInt8) (m:Nat),(∀ t ∈ p,xQ t/\t.1≠3)->p.length<m ->
  match zO fP orP a p with
  |some x=>(z.1=3->zv 200000 m (p++z::q) y1 y2 y3 y4 y5 a=some (.inr (z::q,y1,y2,y3,y4,y5,x)))/\(z.1≠3->∃ y,zv 200000 m (p++z::q) y1 y2 y3 y4 y5 a=some (.inl y))
  |none=>∃ y,zv 200000 m (p++z::q) y1 y2 y3 y4 y5 a=some (.inl y)
 |_,_,0,_,h=>by omega
 | [],a,m+1,hp,h=>by
  have e4:(z.1==(4:Int))=false:=by rcases hz with e|e<;>rw[e]<;>rfl
  simp only[zO,yj]
  unfold zv jW
  simp only[wg,cond_true,z8,wh,ya,e4,yd]
  exact⟨_,rfl⟩
 | [t],a,m+1,hp,h=>by
  obtain⟨hok,hk⟩:=hp t (yk ..)
  have e1:(z.1==(1:Int))=false:=by rcases hz with e|e<;>rw[e]<;>rfl
  simp only[ye,yj]
  have hl1:decide (yc ([40]:LB)+yc (nth uS1 (@yN Tok t (z::q)) 0).2.1<4611686018427387904)=true:=by
   show decide (yc ([40]:LB)+yc t.2.1<4611686018427387904)=true
   have:=hok.2.1;simp;omega
  have hl2:decide (yc (([40]:LB)++(nth uS1 (@yN Tok t (z::q)) 0).2.1)+yc ([41]:LB)<4611686018427387904)=true:=by
   show decide (yc (([40]:LB)++t.2.1)+yc ([41]:LB)<4611686018427387904)=true
   have:=hok.2.1;simp;omega
  unfold zv jW
  simp only[wg,cond_true,z8,ya,zy,zn,yf,hl1,hl2]
  simp only[wh]
  by_cases h4:t.1=4
  ·have e4:(t.1==(4:Int))=true:=by rw[beq_iff_eq];exact h4
   obtain⟨h0,h32⟩:=hok.2.2 h4
   have hne:(t.2.1 != ([]:LB))=true:=by simpa using h0
   simp only[e4,yb,cond_false,zcM _ hok.2.1 h0 h32,zO,if_pos h4,fP]
   cases hf:flS t.2.1 with
   |none=>
    simp only[ya,cond_false,yx]
    exact⟨_,rfl⟩
   |some n=>
    simp only[ya,cond_true,yp,hne,yb,cond_false,orP]
    by_cases hzk:z.1=3
    ·have e5:(z.1==(3:Int))=true:=by rw[beq_iff_eq];exact hzk
     simp only[e5,cond_true]
     exact⟨fun _=>(by first|rfl|trivial),fun h=>absurd hzk h⟩
    ·have e5:(z.1==(3:Int))=false:=by simpa using hzk
     simp only[e5,cond_false,e1,yd,cond_true]
     exact⟨fun h=>absurd h hzk,fun _=>⟨_,rfl⟩⟩
  ·have e4:(t.1==(4:Int))=false:=by simpa using h4
   simp only[zO,if_neg h4,e4,yd,cond_true]
   exact⟨_,rfl⟩
 |t::s::r,a,m+1,hp,h=>by
  obtain⟨hok,hk⟩:=hp t (yk ..)
  obtain⟨hok2,hk2⟩:=hp s (yg _ (yk ..))
  have ek:(s.1==(3:Int))=false:=by simpa using hk2
  simp only[ye]
  have hl1:decide (yc ([40]:LB)+yc (nth uS1 (@yN Tok t (s::(r++z::q))) 0).2.1<4611686018427387904)=true:=by
   show decide (yc ([40]:LB)+yc t.2.1<4611686018427387904)=true
   have:=hok.2.1;simp;omega
  have hl2:decide (yc (([40]:LB)++(nth uS1 (@yN Tok t (s::(r++z::q))) 0).2.1)+yc ([41]:LB)<4611686018427387904)=true:=by
   show decide (yc (([40]:LB)++t.2.1)+yc ([41]:LB)<4611686018427387904)=true
   have:=hok.2.1;simp;omega
  unfold zv jW
  simp only[wg,cond_true,z8,ya,zy,zn,yf,hl1,hl2]
  simp only[wh]
  by_cases h4:t.1=4
  ·have e4:(t.1==(4:Int))=true:=by rw[beq_iff_eq];exact h4
   obtain⟨h0,h32⟩:=hok.2.2 h4
   have hne:(t.2.1 != ([]:LB))=true:=by simpa using h0
   simp only[e4,yb,cond_false,zcM _ hok.2.1 h0 h32,zO,if_pos h4,fP]
   cases hf:flS t.2.1 with
   |none=>
    simp only[ya,cond_false,yx]
    exact⟨_,rfl⟩
   |some n=>
    simp only[ya,cond_true,yp,hne,yb,cond_false,orP]
    simp only[ek,cond_false]
    by_cases hs:s.1=1
    ·have e5:(s.1==(1:Int))=true:=by rw[beq_iff_eq];exact hs
     simp only[e5,yb,cond_false,if_pos hs]
     exact zit y1 y2 y3 y4 y5 z q hz r _ m (fun u hu=>hp u (yg _ (yg _ hu))) (by simp only[yh] at h;omega)
    ·have e5:(s.1==(1:Int))=false:=by simpa using hs
     simp only[e5,yd,cond_true,if_neg hs]
     exact⟨_,rfl⟩
  ·have e4:(t.1==(4:Int))=false:=by simpa using h4
   simp only[zO,if_neg h4,e4,yd,cond_true]
   exact⟨_,rfl⟩
theorem zl3(y1:LB)(y2:Int)(y3:List (Int×Int))(y4:Int)(y5:Bool)(z:Tok)(q:List Tok)(hz:z.1=0\/z.1=3):∀ (p:List Tok) (a:UInt8) (m:Nat),(∀ t ∈ p,xQ t/\t.1≠0)->p.length<m ->
  match zO fP orP a p with
  |some x=>(z.1=0->zB 200000 m (p++z::q) y1 y2 y3 y4 y5 a=some (.inr (z::q,y1,y2,y3,y4,y5,x)))/\(z.1≠0->∃ y,zB 200000 m (p++z::q) y1 y2 y3 y4 y5 a=some (.inl y))
  |none=>∃ y,zB 200000 m (p++z::q) y1 y2 y3 y4 y5 a=some (.inl y)
 |_,_,0,_,h=>by omega
 | [],a,m+1,hp,h=>by
  have e4:(z.1==(4:Int))=false:=by rcases hz with e|e<;>rw[e]<;>rfl
  simp only[zO,yj]
  unfold zB jX
  simp only[wg,cond_true,z8,wh,ya,e4,yd]
  exact⟨_,rfl⟩
 | [t],a,m+1,hp,h=>by
  obtain⟨hok,hk⟩:=hp t (yk ..)
  have e1:(z.1==(1:Int))=false:=by rcases hz with e|e<;>rw[e]<;>rfl
  simp only[ye,yj]
  have hl1:decide (yc ([40]:LB)+yc (nth uS1 (@yN Tok t (z::q)) 0).2.1<4611686018427387904)=true:=by
   show decide (yc ([40]:LB)+yc t.2.1<4611686018427387904)=true
   have:=hok.2.1;simp;omega
  have hl2:decide (yc (([40]:LB)++(nth uS1 (@yN Tok t (z::q)) 0).2.1)+yc ([41]:LB)<4611686018427387904)=true:=by
   show decide (yc (([40]:LB)++t.2.1)+yc ([41]:LB)<4611686018427387904)=true
   have:=hok.2.1;simp;omega
  unfold zB jX
  simp only[wg,cond_true,z8,ya,zy,zn,yf,hl1,hl2]
  simp only[wh]
  by_cases h4:t.1=4
  ·have e4:(t.1==(4:Int))=true:=by rw[beq_iff_eq];exact h4
   obtain⟨h0,h32⟩:=hok.2.2 h4
   have hne:(t.2.1 != ([]:LB))=true:=by simpa using h0
   simp only[e4,yb,cond_false,zcM _ hok.2.1 h0 h32,zO,if_pos h4,fP]
   cases hf:flS t.2.1 with
   |none=>
    simp only[ya,cond_false,yx]
    exact⟨_,rfl⟩
   |some n=>
    simp only[ya,cond_true,yp,hne,yb,cond_false,orP]
    by_cases hzk:z.1=0
    ·have e5:(z.1==(0:Int))=true:=by rw[beq_iff_eq];exact hzk
     simp only[e5,cond_true]
     exact⟨fun _=>(by first|rfl|trivial),fun h=>absurd hzk h⟩
    ·have e5:(z.1==(0:Int))=false:=by simpa using hzk
     simp only[e5,cond_false,e1,yd,cond_true]
     exact⟨fun h=>absurd h hzk,fun _=>⟨_,rfl⟩⟩
  ·have e4:(t.1==(4:Int))=false:=by simpa using h4
   simp only[zO,if_neg h4,e4,yd,cond_true]
   exact⟨_,rfl⟩
 |t::s::r,a,m+1,hp,h=>by
  obtain⟨hok,hk⟩:=hp t (yk ..)
  obtain⟨hok2,hk2⟩:=hp s (yg _ (yk ..))
  have ek:(s.1==(0:Int))=false:=by simpa using hk2
  simp only[ye]
  have hl1:decide (yc ([40]:LB)+yc (nth uS1 (@yN Tok t (s::(r++z::q))) 0).2.1<4611686018427387904)=true:=by
   show decide (yc ([40]:LB)+yc t.2.1<4611686018427387904)=true
   have:=hok.2.1;simp;omega
  have hl2:decide (yc (([40]:LB)++(nth uS1 (@yN Tok t (s::(r++z::q))) 0).2.1)+yc ([41]:LB)<4611686018427387904)=true:=by
   show decide (yc (([40]:LB)++t.2.1)+yc ([41]:LB)<4611686018427387904)=true
   have:=hok.2.1;simp;omega
  unfold zB jX
  simp only[wg,cond_true,z8,ya,zy,zn,yf,hl1,hl2]
  simp only[wh]
  by_cases h4:t.1=4
  ·have e4:(t.1==(4:Int))=true:=by rw[beq_iff_eq];exact h4
   obtain⟨h0,h32⟩:=hok.2.2 h4
   have hne:(t.2.1 != ([]:LB))=true:=by simpa using h0
   simp only[e4,yb,cond_false,zcM _ hok.2.1 h0 h32,zO,if_pos h4,fP]
   cases hf:flS t.2.1 with
   |none=>
    simp only[ya,cond_false,yx]
    exact⟨_,rfl⟩
   |some n=>
    simp only[ya,cond_true,yp,hne,yb,cond_false,orP]
    simp only[ek,cond_false]
    by_cases hs:s.1=1
    ·have e5:(s.1==(1:Int))=true:=by rw[beq_iff_eq];exact hs
     simp only[e5,yb,cond_false,if_pos hs]
     exact zl3 y1 y2 y3 y4 y5 z q hz r _ m (fun u hu=>hp u (yg _ (yg _ hu))) (by simp only[yh] at h;omega)
    ·have e5:(s.1==(1:Int))=false:=by simpa using hs
     simp only[e5,yd,cond_true,if_neg hs]
     exact⟨_,rfl⟩
  ·have e4:(t.1==(4:Int))=false:=by simpa using h4
   simp only[zO,if_neg h4,e4,yd,cond_true]
   exact⟨_,rfl⟩
theorem zis(y1:LB)(y2:Int)(y3:List (Int×Int))(y5:UInt8)(z:Tok)(q:List Tok)(hz:z.1=0\/z.1=3):∀ (p:List Tok) (a:Int) (m:Nat),(∀ t ∈ p,xQ t/\t.1≠3)->p.length<m ->
  match zO (fW true) orI a p with
  |some x=>(z.1=3->zt 200000 m (p++z::q) y1 y2 y3 a y5=some (.inr (z::q,y1,y2,y3,x,y5)))/\(z.1≠3->∃ y,zt 200000 m (p++z::q) y1 y2 y3 a y5=some (.inl y))
  |none=>∃ y,zt 200000 m (p++z::q) y1 y2 y3 a y5=some (.inl y)
 |_,_,0,_,h=>by omega
 | [],a,m+1,hp,h=>by
  have e4:(z.1==(4:Int))=false:=by rcases hz with e|e<;>rw[e]<;>rfl
  simp only[zO,yj]
  unfold zt jV
  simp only[wg,cond_true,z8,wh,ya,e4,yd]
  exact⟨_,rfl⟩
 | [t],a,m+1,hp,h=>by
  obtain⟨hok,hk⟩:=hp t (yk ..)
  have e1:(z.1==(1:Int))=false:=by rcases hz with e|e<;>rw[e]<;>rfl
  simp only[ye,yj]
  unfold zt jV
  simp only[wg,cond_true,z8,wh,ya,zy,zn,yf]
  by_cases h4:t.1=4
  ·have e4:(t.1==(4:Int))=true:=by rw[beq_iff_eq];exact h4
   have hi:=zkD _ hok.2.1
   simp only[e4,yb,cond_false,zdY _ hok.2.1,ya,zO,if_pos h4]
   by_cases h0:zdg t.2.1=0
   ·have hd:decide (0<zdg t.2.1)=false:=by simp;omega
    simp only[znw h0,yx,hd,yd,cond_true]
    exact⟨_,rfl⟩
   ·have hd:decide (0<zdg t.2.1)=true:=by simp;omega
    simp only[znx h0,yp,hd,yb,cond_false,orI]
    by_cases hzk:z.1=3
    ·have e5:(z.1==(3:Int))=true:=by rw[beq_iff_eq];exact hzk
     simp only[e5,cond_true]
     exact⟨fun _=>(by first|rfl|trivial),fun h=>absurd hzk h⟩
    ·have e5:(z.1==(3:Int))=false:=by simpa using hzk
     simp only[e5,cond_false,e1,yd,cond_true]
     exact⟨fun h=>absurd h hzk,fun _=>⟨_,rfl⟩⟩
  ·have e4:(t.1==(4:Int))=false:=by simpa using h4
   simp only[zO,if_neg h4,e4,yd,cond_true]
   exact⟨_,rfl⟩
 |t::s::r,a,m+1,hp,h=>by
  obtain⟨hok,hk⟩:=hp t (yk ..)
  obtain⟨hok2,hk2⟩:=hp s (yg _ (yk ..))
  have ek:(s.1==(3:Int))=false:=by simpa using hk2
  simp only[ye]
  unfold zt jV
  simp only[wg,cond_true,z8,wh,ya,zy,zn,yf]
  by_cases h4:t.1=4
  ·have e4:(t.1==(4:Int))=true:=by rw[beq_iff_eq];exact h4
   have hi:=zkD _ hok.2.1
   simp only[e4,yb,cond_false,zdY _ hok.2.1,ya,zO,if_pos h4]
   by_cases h0:zdg t.2.1=0
   ·have hd:decide (0<zdg t.2.1)=false:=by simp;omega
    simp only[znw h0,hd,yd,cond_true]
    exact⟨_,rfl⟩
   ·have hd:decide (0<zdg t.2.1)=true:=by simp;omega
    simp only[znx h0,hd,yb,cond_false,orI]
    simp only[ek,cond_false]
    by_cases hs:s.1=1
    ·have e5:(s.1==(1:Int))=true:=by rw[beq_iff_eq];exact hs
     simp only[e5,yb,cond_false,if_pos hs]
     exact zis y1 y2 y3 y5 z q hz r _ m (fun u hu=>hp u (yg _ (yg _ hu))) (by simp only[yh] at h;omega)
    ·have e5:(s.1==(1:Int))=false:=by simpa using hs
     simp only[e5,yd,cond_true,if_neg hs]
     exact⟨_,rfl⟩
  ·have e4:(t.1==(4:Int))=false:=by simpa using h4
   simp only[zO,if_neg h4,e4,yd,cond_true]
   exact⟨_,rfl⟩
def zgj:List Tok->Option (List Tok×List Tok)
 | []=>none
 |t::r=>if t.1=3 then some ([],r) else(zgj r).map fun p=>(t::p.1,p.2)
theorem zfz:∀ {l p q:List Tok},zgj l=some (p,q)->∃ z:Tok,z.1=3/\l=p++z::q/\∀ t ∈ p,t.1≠3
 | [],p,q,h=>by cases h
 |t::r,p,q,h=>by
  unfold zgj at h
  by_cases h3:t.1=3
  ·rw[if_pos h3] at h
   cases h
   exact⟨t,h3,rfl,(fun _ h=>by cases h)⟩
  ·rw[if_neg h3] at h
   cases hc:zgj r with
   |none=>rw[hc] at h;cases h
   |some pq=>
    rw[hc] at h
    cases h
    obtain⟨z,h1,h2,h4⟩:=zfz (p:=pq.1) (q:=pq.2) hc
    refine⟨z,h1,by rw[h2];rfl,fun u hu=>?_⟩
    rcases yJ.1 hu with rfl|hu
    ·exact h3
    ·exact h4 u hu
theorem zq7{z:Tok}{q:List Tok}(hz:z.1=3):∀ {p:List Tok},(∀ t ∈ p,t.1≠3)->zgj (p++z::q)=some (p,q)
 | [],_=>by unfold zgj;simp only[yj,if_pos hz]
 |t::r,h=>by
  unfold zgj
  simp only[ye,if_neg (h t (yk ..)),zq7 hz (p:=r) (fun u hu=>h u (yg _ hu)),yp]
theorem zfy:∀ {l:List Tok},zgj l=none->∀ t ∈ l,t.1≠3
 | [],_,_,h=>by cases h
 |t::r,h,u,hu=>by
  unfold zgj at h
  by_cases h3:t.1=3
  ·rw[if_pos h3] at h;cases h
  ·rw[if_neg h3] at h
   cases hc:zgj r with
   |some pq=>rw[hc] at h;cases h
   |none=>
    rcases yJ.1 hu with rfl|hu
    ·exact h3
    ·exact zfy hc u hu
def brS(items:Bool):List Tok->Option (Int×List Tok)
 | []=>none
 |a::r=>if a.1=2 then(match zgj r with
  |none=>none
  |some ([],q)=>cond items none (some (0,q))
  |some (t::p,q)=>(zO (fW items) orI 0 (t::p)).map fun x=>(x,q)) else none
def ztI:Option (Int×List Tok)->Option Int
 |some (x,[])=>some x
 |_=>none
def cA(tag:LB)(k:Int)(m:LB)(f:UInt8)(d:LB):El uS2:=(tag,(k,(m,([],(0,(0,(false,(f,d))))))))
def zne:List Tok->Option (UInt8×LB)
 | []=>none
 | [d]=>if d.1=6 then some (0,d.2.1) else none
 |a::b::r=>match brS false (a::b::r) with
  |some (x,[s,d])=>if s.1=1/\d.1=6 then some (zdC x,d.2.1) else none
  |_=>none
def wF:LB:=[70,76,65,71,83]
def wP:LB:=[43,70,76,65,71,83]
def wM:LB:=[45,70,76,65,71,83]
def wS:LB:=[46,83,73,76,69,78,84]
def mW(w:LB)(b:Bool):Option (Int×Bool):=cond (w==wF) (some (0,b)) (cond (w==wP) (some (1,b)) (cond (w==wM) (some (2,b)) none))
def zr1(u:LB):Option (Int×Bool):=if 7<=u.length/\u.drop (u.length-7)=wS then mW (u.take (u.length-7)) true else mW u false
def zr0(s:LB):Option (Int×Bool):=zr1 (s.map up)
theorem zwZ(u:LB):zi 200000 200000 [([70,76,65,71,83]:LB),([43,70,76,65,71,83]:LB),([45,70,76,65,71,83]:LB)] u 3 0=(cond (u==([70,76,65,71,83]:LB)) (some (.inl 0)) (cond (u==([43,70,76,65,71,83]:LB)) (some (.inl 1)) (cond (u==([45,70,76,65,71,83]:LB)) (some (.inl 2)) (some (.inr ()))))):=by kernel_rfl
theorem zwY(w:LB)(b:Bool):∃ i:Int,zm 200000 [([70,76,65,71,83]:LB),([43,70,76,65,71,83]:LB),([45,70,76,65,71,83]:LB)] w=some (i,())/\(match mW w b with
  |some (m,b')=>i=m/\b'=b/\0<=i
  |none=>i=-1):=by
 unfold zm
 rw[show zi 200000 200000 [([70,76,65,71,83]:LB),([43,70,76,65,71,83]:LB),([45,70,76,65,71,83]:LB)] w (((yc ([([70,76,65,71,83]:LB),([43,70,76,65,71,83]:LB),([45,70,76,65,71,83]:LB)]:List LB)):Nat):Int) 0=_ from zwZ w]
 unfold mW wF wP wM
 cases w==([70,76,65,71,83]:LB) with
 |true=>exact⟨0,rfl,rfl,rfl,by omega⟩
 |false=>
  cases w==([43,70,76,65,71,83]:LB) with
  |true=>exact⟨1,rfl,rfl,rfl,by omega⟩
  |false=>
   cases w==([45,70,76,65,71,83]:LB) with
   |true=>exact⟨2,rfl,rfl,rfl,by omega⟩
   |false=>exact⟨-1,rfl,rfl⟩
theorem zr2(u:LB)(hl:u.length<=20000):∃ (w:LB) (b:Bool) (i:Int),qg 200000 u ([46,83,73,76,69,78,84]:LB)=some (w,b,())/\zm 200000 [([70,76,65,71,83]:LB),([43,70,76,65,71,83]:LB),([45,70,76,65,71,83]:LB)] w=some (i,())/\(match zr1 u with
  |some (m,b')=>i=m/\b'=b/\0<=i
  |none=>i=-1):=by
 unfold qg qG qH zr1
 by_cases h7:7<=u.length
 ·have e1:decide ((((yc ([46,83,73,76,69,78,84]:LB)):Nat):Int)<=(((yc u):Nat):Int))=true:=by simp;omega
  have e2:yr .i64 ((((yc u):Nat):Int)-(((yc ([46,83,73,76,69,78,84]:LB)):Nat):Int))=((u.length-7:Nat):Int):=by
   rw[show(((yc ([46,83,73,76,69,78,84]:LB)):Nat):Int)=7 from rfl,wri (by omega) (by omega)];omega
  have e3:=wR (a:=u.length-7) (b:=u.length) (n:=u.length) (by omega) (by omega)
  have e4:=wR (a:=0) (b:=u.length-7) (n:=u.length) (by omega) (by omega)
  rw[show((0:Nat):Int)=(0:Int) from rfl] at e4
  simp only[e1,cond_true,e2,e3,e4,ym,zc2,wL,ya]
  by_cases hw:u.drop (u.length-7)=wS
  ·have e5:(u.drop (u.length-7)==([46,83,73,76,69,78,84]:LB))=true:=by rw[beq_iff_eq];exact hw
   rw[e5,if_pos ⟨h7,hw⟩]
   simp only[yb,cond_false,ya]
   obtain⟨i,h1,h2⟩:=zwY (u.take (u.length-7)) true
   exact⟨_,_,i,rfl,h1,h2⟩
  ·have e5:(u.drop (u.length-7)==([46,83,73,76,69,78,84]:LB))=false:=by
    cases e:u.drop (u.length-7)==([46,83,73,76,69,78,84]:LB) with
    |false=>rfl
    |true=>rw[beq_iff_eq] at e;exact absurd e hw
   rw[e5,if_neg (fun h=>hw h.2)]
   simp only[yd,cond_true,ya]
   obtain⟨i,h1,h2⟩:=zwY u false
   exact⟨_,_,i,rfl,h1,h2⟩
 ·have e1:decide ((((yc ([46,83,73,76,69,78,84]:LB)):Nat):Int)<=(((yc u):Nat):Int))=false:=by simp;omega
  rw[if_neg (fun h=>h7 h.1)]
  simp only[e1,cond_false,ya,yd,cond_true]
  obtain⟨i,h1,h2⟩:=zwY u false
  exact⟨_,_,i,rfl,h1,h2⟩

def zpS(tag:LB):El uS2:=(tag,(0,([],([],(0,(0,(false,(0,[]))))))))
def zpl(tag:LB)(o:Option (El uS2)):Option ((El uS2)×Bool×Unit):=some (match o with
 |some c=>(c,true,())
 |none=>(zpS tag,false,()))
def cI(tag:LB)(k:Int)(st:List (Int×Int))(x:Int):El uS2:=(tag,(k,([],(st,(x,(0,(false,(0,[]))))))))
def cS(tag:LB)(k:Int)(st:List (Int×Int))(m:Int)(b:Bool)(f:UInt8):El uS2:=(tag,(k,([],(st,(0,(m,(b,(f,[]))))))))
def tk{A:Type}(k:Int)(l:List Tok)(f:Tok->List Tok->Option A):Option A:=match l with
 | []=>none
 |t::r=>if t.1=k then f t r else none
def tkM{A:Type}(l:List Tok)(f:Tok->List Tok->Option A):Option A:=match l with
 | []=>none
 |t::r=>if zpM t=true then f t r else none
def tkE{A:Type}(l:List Tok)(x:A):Option A:=match l with
 | []=>some x
 |_::_=>none
theorem eqT{a b:Int}(h:a=b):(a==b)=true:=by rw[beq_iff_eq];exact h
theorem eqF{a b:Int}(h:¬ a=b):(a==b)=false:=by simpa using h
theorem neT{a b:Int}(h:¬ a=b):(a != b)=true:=by simpa using h
theorem neF{a b:Int}(h:a=b):(a != b)=false:=by simpa using h
theorem zwk(tag:LB)(kd:Int)(e:Tok)(he:e.1=0)(r:List Tok)(hk:∀ t ∈ r,xQ t):B1 200000 tag kd (r++[e])=zpl tag (tkE r (cA tag kd [] 0 [])):=by
 cases r with
 |nil=>
  simp only[yj]
  unfold B1
  simp only[wg,cond_true,cond_false,z8,wh,ya,zn,yf,yb,eqT he]
  rfl
 |cons t r=>
  have h0:¬ t.1=0:=by have:=(hk t (yk ..)).1;omega
  simp only[ye]
  unfold B1
  simp only[wg,cond_true,z8,wh,ya,zn,yf,yd,eqF h0]
  rfl
theorem zwu(tag:LB)(kd:Int)(mb:LB)(e:Tok)(he:e.1=0)(r:List Tok)(hk:∀ t ∈ r,xQ t):E5 200000 tag kd mb (r++[e])=zpl tag (tkE r (cA tag kd mb 0 [])):=by
 cases r with
 |nil=>
  simp only[yj]
  unfold E5
  simp only[wg,cond_true,cond_false,z8,wh,ya,zn,yf,yb,eqT he]
  rfl
 |cons t r=>
  have h0:¬ t.1=0:=by have:=(hk t (yk ..)).1;omega
  simp only[ye]
  unfold E5
  simp only[wg,cond_true,z8,wh,ya,zn,yf,yd,eqF h0]
  rfl
def zre(tag:LB)(kd:Int)(mb:LB)(f:UInt8)(q:List Tok):Option (El uS2):=match q with
 | [s,d]=>if s.1=1/\d.1=6 then some (cA tag kd mb f d.2.1) else none
 |_=>none
theorem zqD(tag:LB)(kd:Int)(mb:LB)(f:UInt8)(e:Tok)(he:e.1=0)(z:Tok)(hz:z.1=3)(q:List Tok)(hk:∀ t ∈ q,xQ t):G6 200000 tag tag kd mb f (z::(q++[e]))=zpl tag (zre tag kd mb f q):=by
 have f1:¬ e.1=1:=by omega
 have f6:¬ e.1=6:=by omega
 unfold G6
 simp only[wg,cond_true,cond_false,z8,wh,ya,zy,zn,yf,yb,eqT hz]
 match q,hk with
 | [],_=>simp only[wg,cond_true,wh,zy,zn,yd,yj,eqF f1];rfl
 | [s],_=>
  by_cases h1:s.1=1
  ·simp only[wg,cond_true,cond_false,wh,zy,zn,yb,yd,ye,yj,eqT h1,eqF f6];rfl
  ·simp only[wg,cond_true,wh,zy,zn,yd,ye,yj,eqF h1];rfl
 | [s,d],hk=>
  have eb:=zaj (n:=d.2.1.length) (by have:=(hk d (by simp)).2.1;omega)
  by_cases h1:s.1=1
  ·by_cases h6:d.1=6
   ·simp only[wg,cond_true,cond_false,wh,zy,zn,yb,ye,yj,eqT h1,eqT h6,eqT he,eb,zre,if_pos (And.intro h1 h6)];rfl
   ·simp only[wg,cond_true,cond_false,wh,zy,zn,yb,yd,ye,yj,eqT h1,eqF h6,zre,if_neg (fun h:s.1=1/\d.1=6=>h6 h.2)];rfl
  ·simp only[wg,cond_true,wh,zy,zn,yd,ye,yj,eqF h1,zre,if_neg (fun h:s.1=1/\d.1=6=>h1 h.1)];rfl
 |s::d::t::q,hk=>
  have eb:=zaj (n:=d.2.1.length) (by have:=(hk d (by simp)).2.1;omega)
  have h0:¬ t.1=0:=by have:=(hk t (by simp)).1;omega
  by_cases h1:s.1=1
  ·by_cases h6:d.1=6
   ·simp only[wg,cond_true,cond_false,wh,zy,zn,yb,yd,ye,eqT h1,eqT h6,eqF h0,eb,zre];rfl
   ·simp only[wg,cond_true,cond_false,wh,zy,zn,yb,yd,ye,eqT h1,eqF h6,zre];rfl
  ·simp only[wg,cond_true,wh,zy,zn,yd,ye,eqF h1,zre];rfl
theorem zoV(tag:LB)(kd:Int)(mb:LB)(x:Int)(q:List Tok):((match some (x,q) with
  |some (x,[s,d])=>if s.1=1/\d.1=6 then some (zdC x,d.2.1) else none
  |_=>none:Option (UInt8×LB)).map fun p=>cA tag kd mb p.1 p.2)=zre tag kd mb (zdC x) q:=by
 match q with
 | []=>rfl
 | [s]=>rfl
 | [s,d]=>
  unfold zre
  by_cases h:s.1=1/\d.1=6
  ·simp only[if_pos h,yp]
  ·simp only[if_neg h,yx]
 |s::d::t::q=>rfl
theorem ztS(tag:LB)(kd:Int)(mb:LB)(a:Tok)(h2:a.1=2)(r:List Tok):((zne (a::r)).map fun p=>cA tag kd mb p.1 p.2)=match zgj r with
  |none=>none
  |some ([],q)=>zre tag kd mb 0 q
  |some (t::p,q)=>(zO (fW false) orI 0 (t::p)).bind fun x=>zre tag kd mb (zdC x) q:=by
 cases r with
 |nil=>
  have h6:¬ a.1=6:=by omega
  simp only[zne,if_neg h6,zgj,yx]
 |cons b r=>
  unfold zne brS
  simp only[if_pos h2]
  cases hc:zgj (b::r) with
  |none=>rfl
  |some pq=>
   obtain⟨p,q⟩:=pq
   cases p with
   |nil=>simp only[cond_false];exact zoV tag kd mb 0 q
   |cons t p=>
    simp only
    cases zO (fW false) orI 0 (t::p) with
    |none=>rfl
    |some x=>simp only[yp,ya];exact zoV tag kd mb x q
theorem zo1(r:List Tok)(e:Tok):∃ t r',r++[e]=t::r'/\(t=e\/t ∈ r):=by
 cases r with
 |nil=>exact⟨e,[],rfl,.inl rfl⟩
 |cons t r=>exact⟨t,r++[e],rfl,.inr (yk ..)⟩
theorem zwq(tag:LB)(kd:Int)(mb:LB)(e:Tok)(he:e.1=0)(r:List Tok)(hl:r.length<=20000)(hk:∀ t ∈ r,xQ t):D6 200000 tag kd mb (r++[e])=zpl tag ((zne r).map fun p=>cA tag kd mb p.1 p.2):=by
 have f2:¬ e.1=2:=by omega
 have f6:¬ e.1=6:=by omega
 have f3:¬ e.1=3:=by omega
 cases r with
 |nil=>
  simp only[yj]
  unfold D6
  simp only[wg,cond_true,cond_false,z8,wh,ya,zy,zn,yf,yd,eqF f2,eqF f6]
  rfl
 |cons a r=>
  have hkr:∀ t ∈ r,xQ t:=fun t ht=>hk t (yg _ ht)
  by_cases h2:a.1=2
  ·rw[ztS tag kd mb a h2 r]
   cases hc:zgj r with
   |none=>
    have hn:=zfy hc
    have hl46:=zkL tag kd mb e [] (.inl he) r 0 200000 (fun t ht=>⟨hkr t ht,hn t ht⟩) (by simp only[yh] at hl;omega)
    have:∃ y,zA 200000 200000 (r++[e]) tag kd mb 0=some (.inl y):=by
     cases hw:zO fP orP 0 r with
     |none=>rw[hw] at hl46;exact hl46
     |some x=>rw[hw] at hl46;exact hl46.2 f3
    obtain⟨y,hy⟩:=this
    obtain⟨t,r',hr,ht⟩:=zo1 r e
    have ht3:¬ t.1=3:=by
     rcases ht with rfl|ht
     ·exact f3
     ·exact hn t ht
    simp only[ye]
    rw[hr] at hy |-
    unfold D6
    simp only[wg,cond_true,cond_false,z8,wh,ya,zy,zn,yf,yb,eqT h2,neT ht3,hy,ze]
    rfl
   |some pq=>
    obtain⟨p,q⟩:=pq
    obtain⟨z,z1,z2,z3⟩:=zfz hc
    subst z2
    have hkq:∀ t ∈ q,xQ t:=fun t ht=>hkr t (vd _ (yg _ ht))
    rw[show(a::(p++z::q))++[e]=a::(p++z::(q++[e])) from by simp]
    cases p with
    |nil=>
     unfold D6
     simp only[wg,cond_true,cond_false,z8,wh,ya,zy,zn,yf,yb,yj,eqT h2,neF z1,zqD tag kd mb _ e he z z1 q hkq]
    |cons t p=>
     have hl46:=zkL tag kd mb z (q++[e]) (.inr z1) (t::p) 0 200000 (fun u hu=>⟨hkr u (ve _ hu),z3 u hu⟩) (by simp only[yh,yi] at hl |-;omega)
     obtain⟨o,o1,o2,o3⟩:=zpF (t::p) 0 (by omega)
     rw[show yq 0=(0:UInt8) from rfl] at o3
     rw[show((0:Nat):Int)=(0:Int) from rfl] at o2
     have ht3:=z3 t (yk ..)
     unfold D6
     cases o with
     |none=>
      rw[o3] at hl46
      simp only[yx,ye] at hl46
      obtain⟨y,hy⟩:=hl46
      simp only[wg,cond_true,cond_false,z8,wh,ya,zy,zn,yf,yb,ye,eqT h2,neT ht3,hy,ze,o2,yx,yS]
      rfl
     |some n=>
      rw[o3] at hl46
      simp only[yp,ye] at hl46
      have hy:=hl46.1 z1
      have hn:=o1 n rfl
      simp only[wg,cond_true,cond_false,z8,wh,ya,zy,zn,yf,yb,ye,eqT h2,neT ht3,hy,ze,o2,yp,zqD tag kd mb _ e he z z1 q hkq,xe (show n<256 by omega)]
  ·simp only[ye]
   unfold D6
   by_cases h6:a.1=6
   ·have eb:=zaj (n:=a.2.1.length) (by have:=(hk a (by simp)).2.1;omega)
    cases r with
    |nil=>
     simp only[wg,cond_true,cond_false,z8,wh,ya,zy,zn,yf,yb,yd,yj,eqF h2,eqT h6,eb,eqT he,zne,if_pos h6]
     rfl
    |cons b r=>
     have h0:¬ b.1=0:=by have:=(hkr b (by simp)).1;omega
     simp only[wg,cond_true,cond_false,z8,wh,ya,zy,zn,yf,yb,yd,ye,eqF h2,eqT h6,eb,eqF h0,zne,brS,if_neg h2]
     rfl
   ·have hs:zne (a::r)=none:=by
     cases r with
     |nil=>simp only[zne,if_neg h6]
     |cons b r=>simp only[zne,brS,if_neg h2]
    simp only[wg,cond_true,cond_false,z8,wh,ya,zy,zn,yf,yd,eqF h2,eqF h6,hs]
    rfl
theorem zwp(tag:LB)(kd:Int)(mb:LB)(e:Tok)(he:e.1=0)(r:List Tok)(hl:r.length<=20000)(hk:∀ t ∈ r,xQ t):C6 200000 tag kd mb (r++[e])=zpl tag (tk 1 r fun _ r=>(zne r).map fun p=>cA tag kd mb p.1 p.2):=by
 have f1:¬ e.1=1:=by omega
 cases r with
 |nil=>
  simp only[yj]
  unfold C6
  simp only[wg,cond_true,z8,wh,ya,zy,zn,yf,yd,eqF f1]
  rfl
 |cons s r=>
  simp only[ye]
  unfold C6
  by_cases h1:s.1=1
  ·simp only[wg,cond_true,cond_false,z8,wh,ya,zy,zn,yf,yb,eqT h1,tk,if_pos h1]
   exact zwq tag kd mb e he r (by simp only[yh] at hl;omega) (fun t ht=>hk t (yg _ ht))
  ·simp only[wg,cond_true,z8,wh,ya,zy,zn,yf,yd,eqF h1,tk,if_neg h1]
   rfl
theorem zwl(tag:LB)(kd:Int)(e:Tok)(he:e.1=0)(r:List Tok)(hl:r.length<=20000)(hk:∀ t ∈ r,xQ t):B5 200000 tag kd (r++[e])=zpl tag (tk 1 r fun _ r=>tkM r fun m r=>tkE r (cA tag kd m.2.1 0 [])):=by
 have f1:¬ e.1=1:=by omega
 have f4:¬ e.1=4:=by omega
 have f5:¬ e.1=5:=by omega
 have f6:¬ e.1=6:=by omega
 cases r with
 |nil=>
  simp only[yj]
  unfold B5
  simp only[wg,cond_true,z8,zi6,wh,ya,zy,zn,yf,yd,eqF f1]
  rfl
 |cons s r=>
  simp only[ye]
  unfold B5
  by_cases h1:s.1=1
  ·cases r with
   |nil=>
    simp only[wg,cond_true,cond_false,z8,zi6,wh,ya,zy,zn,yf,yb,yd,vI,yj,eqT h1,eqF f4,eqF f5,eqF f6,tk,if_pos h1]
    rfl
   |cons m r=>
    have hkm:=hk m (by simp)
    have hkr:∀ t ∈ r,xQ t:=fun t ht=>hk t (yg _ (yg _ ht))
    have hlr:r.length<=20000:=by simp only[yh] at hl;omega
    have hC:=fun mb=>zwu tag kd mb e he r  hkr
    by_cases h4:m.1=4
    ·have hne:(m.2.1 != ([]:LB))=true:=by simpa using(hkm.2.2 h4).1
     have hb:=zvw 200000 m.2.1 (by have:=hkm.2.1;omega) 200000 0 (by omega) (by have:=hkm.2.1;omega)
     rw[show((0:Nat):Int)=(0:Int) from rfl,yz] at hb
     have hS:zpM m=m.2.1.all zgF:=by unfold zpM;rw[if_pos h4]
     simp only[wg,cond_true,cond_false,z8,zi6,wh,ya,zy,zn,yf,yb,vw,ye,eqT h1,eqT h4,neF h4,hne,hb,tk,if_pos h1,tkM,hS]
     cases m.2.1.all zgF with
     |true=>simp only[if_true,ze,hC]
     |false=>
      simp only[yG,if_false,ze]
      rfl
    ·have hS:zpM m=(m.1==5||m.1==6):=by unfold zpM;rw[if_neg h4]
     simp only[wg,cond_true,cond_false,z8,zi6,wh,ya,zy,zn,yf,yb,vJ,ye,eqT h1,eqF h4,neT h4,tk,if_pos h1,tkM,hS]
     cases(m.1==(5:Int)||m.1==(6:Int)) with
     |true=>simp only[cond_false,yb,if_true,hC]
     |false=>
      simp only[cond_true,yd,yG,if_false]
      rfl
  ·simp only[wg,cond_true,z8,zi6,wh,ya,zy,zn,yf,yd,eqF h1,tk,if_neg h1]
   rfl
theorem zwm(tag:LB)(kd:Int)(e:Tok)(he:e.1=0)(r:List Tok)(hl:r.length<=20000)(hk:∀ t ∈ r,xQ t):B6 200000 tag kd (r++[e])=zpl tag (tk 1 r fun _ r=>tkM r fun m r=>tk 1 r fun _ r=>(zne r).map fun p=>cA tag kd m.2.1 p.1 p.2):=by
 have f1:¬ e.1=1:=by omega
 have f4:¬ e.1=4:=by omega
 have f5:¬ e.1=5:=by omega
 have f6:¬ e.1=6:=by omega
 cases r with
 |nil=>
  simp only[yj]
  unfold B6
  simp only[wg,cond_true,z8,zi6,wh,ya,zy,zn,yf,yd,eqF f1]
  rfl
 |cons s r=>
  simp only[ye]
  unfold B6
  by_cases h1:s.1=1
  ·cases r with
   |nil=>
    simp only[wg,cond_true,cond_false,z8,zi6,wh,ya,zy,zn,yf,yb,yd,vI,yj,eqT h1,eqF f4,eqF f5,eqF f6,tk,if_pos h1]
    rfl
   |cons m r=>
    have hkm:=hk m (by simp)
    have hkr:∀ t ∈ r,xQ t:=fun t ht=>hk t (yg _ (yg _ ht))
    have hlr:r.length<=20000:=by simp only[yh] at hl;omega
    have hC:=fun mb=>zwp tag kd mb e he r hlr hkr
    by_cases h4:m.1=4
    ·have hne:(m.2.1 != ([]:LB))=true:=by simpa using(hkm.2.2 h4).1
     have hb:=zvx 200000 m.2.1 (by have:=hkm.2.1;omega) 200000 0 (by omega) (by have:=hkm.2.1;omega)
     rw[show((0:Nat):Int)=(0:Int) from rfl,yz] at hb
     have hS:zpM m=m.2.1.all zgF:=by unfold zpM;rw[if_pos h4]
     simp only[wg,cond_true,cond_false,z8,zi6,wh,ya,zy,zn,yf,yb,vw,ye,eqT h1,eqT h4,neF h4,hne,hb,tk,if_pos h1,tkM,hS]
     cases m.2.1.all zgF with
     |true=>simp only[if_true,ze,hC];rfl
     |false=>
      simp only[yG,if_false,ze]
      rfl
    ·have hS:zpM m=(m.1==5||m.1==6):=by unfold zpM;rw[if_neg h4]
     simp only[wg,cond_true,cond_false,z8,zi6,wh,ya,zy,zn,yf,yb,vJ,ye,eqT h1,eqF h4,neT h4,tk,if_pos h1,tkM,hS]
     cases(m.1==(5:Int)||m.1==(6:Int)) with
     |true=>simp only[cond_false,yb,if_true,hC];rfl
     |false=>
      simp only[cond_true,yd,yG,if_false]
      rfl
  ·simp only[wg,cond_true,z8,zi6,wh,ya,zy,zn,yf,yd,eqF h1,tk,if_neg h1]
   rfl
def itS:List Tok->Option Int
 | []=>none
 | [w]=>if w.1=4 then(fW true w.2.1).map (orI 0) else none
 |a::b::r=>ztI (brS true (a::b::r))
theorem zuA(x:Int)(q:List Tok):ztI (some (x,q))=tkE q x:=by cases q<;>rfl
theorem zwX(a:Tok)(h2:a.1=2)(r:List Tok):itS (a::r)=match zgj r with
  |none=>none
  |some (p,q)=>(zO (fW true) orI 0 p).bind fun x=>tkE q x:=by
 cases r with
 |nil=>
  have h4:¬ a.1=4:=by omega
  simp only[itS,if_neg h4,zgj]
 |cons b r=>
  unfold itS brS
  simp only[if_pos h2]
  cases hc:zgj (b::r) with
  |none=>rfl
  |some pq=>
   obtain⟨p,q⟩:=pq
   cases p with
   |nil=>rfl
   |cons t p=>
    simp only
    cases zO (fW true) orI 0 (t::p) with
    |none=>rfl
    |some x=>simp only[yp,ya,zuA]
theorem zwr(tag:LB)(kd:Int)(st:List (Int×Int))(e:Tok)(he:e.1=0)(r:List Tok)(hl:r.length<=20000)(hk:∀ t ∈ r,xQ t):D7 200000 tag kd st (r++[e])=zpl tag ((itS r).map fun x=>cI tag kd st x):=by
 have f2:¬ e.1=2:=by omega
 have f4:¬ e.1=4:=by omega
 have f3:¬ e.1=3:=by omega
 cases r with
 |nil=>
  simp only[yj]
  unfold D7
  simp only[wg,cond_true,z8,wh,ya,zy,zn,yf,yd,neT f2,eqF f4]
  rfl
 |cons a r=>
  have hkr:∀ t ∈ r,xQ t:=fun t ht=>hk t (yg _ ht)
  by_cases h2:a.1=2
  ·rw[zwX a h2 r]
   cases hc:zgj r with
   |none=>
    have hn:=zfy hc
    have hl144:=zis tag kd st 0 e [] (.inl he) r 0 200000 (fun t ht=>⟨hkr t ht,hn t ht⟩) (by simp only[yh] at hl;omega)
    have:∃ y,zt 200000 200000 (r++[e]) tag kd st 0 0=some (.inl y):=by
     cases hw:zO (fW true) orI 0 r with
     |none=>rw[hw] at hl144;exact hl144
     |some x=>rw[hw] at hl144;exact hl144.2 f3
    obtain⟨y,hy⟩:=this
    simp only[ye]
    unfold D7
    simp only[wg,cond_true,cond_false,z8,wh,ya,zy,zn,yf,yb,neF h2,eqT h2,hy,ze]
    rfl
   |some pq=>
    obtain⟨p,q⟩:=pq
    obtain⟨z,z1,z2,z3⟩:=zfz hc
    subst z2
    have hkq:∀ t ∈ q,xQ t:=fun t ht=>hkr t (vd _ (yg _ ht))
    rw[show(a::(p++z::q))++[e]=a::(p++z::(q++[e])) from by simp]
    have hl144:=zis tag kd st 0 z (q++[e]) (.inr z1) p 0 200000 (fun u hu=>⟨hkr u (ve _ hu),z3 u hu⟩) (by simp only[yh,yi] at hl |-;omega)
    unfold D7
    cases hw:zO (fW true) orI 0 p with
    |none=>
     rw[hw] at hl144
     obtain⟨y,hy⟩:=hl144
     simp only[wg,cond_true,cond_false,z8,wh,ya,zy,zn,yf,yb,neF h2,eqT h2,hy,ze,hw,yS]
     rfl
    |some x=>
     rw[hw] at hl144
     have hy:=hl144.1 z1
     cases q with
     |nil=>
      simp only[yj] at hy
      simp only[wg,cond_true,cond_false,z8,wh,ya,zy,zn,yf,yb,yj,neF h2,eqT h2,hy,ze,hw,eqT z1,eqT he]
      rfl
     |cons t q=>
      have h0:¬ t.1=0:=by have:=(hkq t (yk ..)).1;omega
      simp only[ye] at hy
      simp only[wg,cond_true,cond_false,z8,wh,ya,zy,zn,yf,yb,yd,ye,neF h2,eqT h2,hy,ze,hw,eqT z1,eqF h0]
      rfl
  ·have hka:=hk a (yk ..)
   have hi:=zkD _ hka.2.1
   simp only[ye]
   unfold D7
   by_cases h4:a.1=4
   ·by_cases h0:zdg a.2.1=0
    ·have hd:decide (0<zdg a.2.1)=false:=by simp;omega
     have hs:itS (a::r)=none:=by
      cases r with
      |nil=>simp only[itS,if_pos h4,znw h0,yx]
      |cons b r=>simp only[itS,brS,if_neg h2,ztI]
     simp only[wg,cond_true,cond_false,z8,wh,ya,zy,zn,yf,yb,yd,neT h2,eqT h4,zdY _ hka.2.1,hd,hs]
     rfl
    ·have hd:decide (0<zdg a.2.1)=true:=by simp;omega
     cases r with
     |nil=>
      simp only[wg,cond_true,cond_false,z8,wh,ya,zy,zn,yf,yb,yj,neT h2,eqT h4,zdY _ hka.2.1,hd,itS,if_pos h4,znx h0,yp,eqT he]
      rfl
     |cons b r=>
      have hb0:¬ b.1=0:=by have:=(hkr b (yk ..)).1;omega
      have hs:itS (a::b::r)=none:=by simp only[itS,brS,if_neg h2,ztI]
      simp only[wg,cond_true,cond_false,z8,wh,ya,zy,zn,yf,yb,yd,ye,neT h2,eqT h4,zdY _ hka.2.1,hd,hs,eqF hb0]
      rfl
   ·have hs:itS (a::r)=none:=by
     cases r with
     |nil=>simp only[itS,if_neg h4]
     |cons b r=>simp only[itS,brS,if_neg h2,ztI]
    simp only[wg,cond_true,z8,wh,ya,zy,zn,yf,yd,neT h2,eqF h4,hs]
    rfl
theorem zqE(tag:LB)(kd:Int)(st:List (Int×Int))(md:Int)(sl:Bool)(f:UInt8)(e:Tok)(he:e.1=0)(z:Tok)(hz:z.1=3)(q:List Tok)(hk:∀ t ∈ q,xQ t):G8 200000 tag tag kd st md sl f (z::(q++[e]))=zpl tag (tkE q (cS tag kd st md sl f)):=by
 unfold G8
 cases q with
 |nil=>simp only[wg,cond_true,cond_false,z8,wh,ya,zy,zn,yf,yb,yj,eqT hz,eqT he];rfl
 |cons t q=>
  have h0:¬ t.1=0:=by have:=(hk t (yk ..)).1;omega
  simp only[wg,cond_true,cond_false,z8,wh,ya,zy,zn,yf,yb,yd,ye,eqT hz,eqF h0];rfl
def zrg(r:List Tok):Option UInt8:=(match ztI (brS false r) with
 |some x=>some x
 |none=>zO (fW false) orI 0 r).map zdC
theorem zrh(a:Tok)(h2:a.1=2)(r:List Tok):zrg (a::r)=match zgj r with
  |none=>none
  |some ([],q)=>tkE q 0
  |some (t::p,q)=>(zO (fW false) orI 0 (t::p)).bind fun x=>tkE q (zdC x):=by
 have h4:¬ a.1=4:=by omega
 have hw:zO (fW false) orI 0 (a::r)=none:=by
  cases r with
  |nil=>simp only[zO,if_neg h4]
  |cons b r=>simp only[zO,if_neg h4]
 unfold zrg
 rw[hw]
 simp only[brS,if_pos h2]
 cases hc:zgj r with
 |none=>rfl
 |some pq=>
  obtain⟨p,q⟩:=pq
  cases p with
  |nil=>cases q<;>rfl
  |cons t p=>
   simp only
   cases zO (fW false) orI 0 (t::p) with
   |none=>rfl
   |some x=>cases q<;>rfl
theorem zri(r:List Tok)(h:brS false r=none):zrg r=(zO (fW false) orI 0 r).map zdC:=by
 unfold zrg
 rw[h];rfl
theorem zoC(tag:LB)(kd:Int)(st:List (Int×Int))(md:Int)(sl:Bool)(e:Tok)(he:e.1=0)(r:List Tok)(hl:r.length<=20000)(hk:∀ t ∈ r,xQ t)(hb:brS false r=none)(t:Tok)(r':List Tok)(hr:r++[e]=t::r')(h2:¬ t.1=2):D8 200000 tag kd st md sl (r++[e])=zpl tag ((zrg r).map fun f=>cS tag kd st md sl f):=by
 rw[zri r hb]
 have h206:=zl3 tag kd st md sl e [] (.inl he) r 0 200000 (fun u hu=>⟨hk u hu,by have:=(hk u hu).1;omega⟩) (by omega)
 obtain⟨o,o1,o2,o3⟩:=zpF r 0 (by omega)
 rw[show yq 0=(0:UInt8) from rfl] at o3
 rw[show((0:Nat):Int)=(0:Int) from rfl] at o2
 rw[hr] at h206 |-
 unfold D8
 cases o with
 |none=>
  rw[o3] at h206
  simp only[yx] at h206
  obtain⟨y,hy⟩:=h206
  simp only[wg,cond_true,cond_false,z8,wh,ya,zy,zn,yf,yd,eqF h2,hy,ze,o2,yx]
  rfl
 |some n=>
  rw[o3] at h206
  simp only[yp] at h206
  have hy:=h206.1 he
  have hn:=o1 n rfl
  simp only[wg,cond_true,cond_false,z8,wh,ya,zy,zn,yf,yb,yd,eqF h2,hy,ze,o2,yp,eqT he,xe (show n<256 by omega)]
  rfl
theorem zws(tag:LB)(kd:Int)(st:List (Int×Int))(md:Int)(sl:Bool)(e:Tok)(he:e.1=0)(r:List Tok)(hl:r.length<=20000)(hk:∀ t ∈ r,xQ t):D8 200000 tag kd st md sl (r++[e])=zpl tag ((zrg r).map fun f=>cS tag kd st md sl f):=by
 have f2:¬ e.1=2:=by omega
 have f3:¬ e.1=3:=by omega
 cases r with
 |nil=>exact zoC tag kd st md sl e he [] (by simp) (fun _ h=>by cases h) rfl e [] rfl f2
 |cons a r=>
  have hkr:∀ t ∈ r,xQ t:=fun t ht=>hk t (yg _ ht)
  by_cases h2:a.1=2
  ·rw[zrh a h2 r]
   cases hc:zgj r with
   |none=>
    have hn:=zfy hc
    have hl179:=zit tag kd st md sl e [] (.inl he) r 0 200000 (fun t ht=>⟨hkr t ht,hn t ht⟩) (by simp only[yh] at hl;omega)
    have:∃ y,zv 200000 200000 (r++[e]) tag kd st md sl 0=some (.inl y):=by
     cases hw:zO fP orP 0 r with
     |none=>rw[hw] at hl179;exact hl179
     |some x=>rw[hw] at hl179;exact hl179.2 f3
    obtain⟨y,hy⟩:=this
    obtain⟨t,r',hr,ht⟩:=zo1 r e
    have ht3:¬ t.1=3:=by
     rcases ht with rfl|ht
     ·exact f3
     ·exact hn t ht
    simp only[ye]
    rw[hr] at hy |-
    unfold D8
    simp only[wg,cond_true,cond_false,z8,wh,ya,zy,zn,yf,yb,eqT h2,neT ht3,hy,ze]
    rfl
   |some pq=>
    obtain⟨p,q⟩:=pq
    obtain⟨z,z1,z2,z3⟩:=zfz hc
    subst z2
    have hkq:∀ t ∈ q,xQ t:=fun t ht=>hkr t (vd _ (yg _ ht))
    rw[show(a::(p++z::q))++[e]=a::(p++z::(q++[e])) from by simp]
    cases p with
    |nil=>
     unfold D8
     simp only[wg,cond_true,cond_false,z8,wh,ya,zy,zn,yf,yb,yj,eqT h2,neF z1,zqE tag kd st md sl _ e he z z1 q hkq]
     cases q<;>rfl
    |cons t p=>
     have hl179:=zit tag kd st md sl z (q++[e]) (.inr z1) (t::p) 0 200000 (fun u hu=>⟨hkr u (ve _ hu),z3 u hu⟩) (by simp only[yh,yi] at hl |-;omega)
     obtain⟨o,o1,o2,o3⟩:=zpF (t::p) 0 (by omega)
     rw[show yq 0=(0:UInt8) from rfl] at o3
     rw[show((0:Nat):Int)=(0:Int) from rfl] at o2
     have ht3:=z3 t (yk ..)
     unfold D8
     cases o with
     |none=>
      rw[o3] at hl179
      simp only[yx,ye] at hl179
      obtain⟨y,hy⟩:=hl179
      simp only[wg,cond_true,cond_false,z8,wh,ya,zy,zn,yf,yb,ye,eqT h2,neT ht3,hy,ze,o2,yx,yS]
      rfl
     |some n=>
      rw[o3] at hl179
      simp only[yp,ye] at hl179
      have hy:=hl179.1 z1
      have hn:=o1 n rfl
      simp only[wg,cond_true,cond_false,z8,wh,ya,zy,zn,yf,yb,ye,eqT h2,neT ht3,hy,ze,o2,yp,zqE tag kd st md sl _ e he z z1 q hkq,xe (show n<256 by omega)]
      cases q<;>rfl
  ·exact zoC tag kd st md sl e he (a::r) hl hk (by simp only[brS,if_neg h2]) a (r++[e]) rfl h2
def zuO(s:LB):Option (List (Int×Int)):=zb6 (xE 44 s)
theorem zmN(s:LB)(hs:s.length<=20000):wk 200000 s=some (match zuO s with
  |some l=>(l,true,())
  |none=>([],false,())):=zuP s hs
def SB7(tag:LB)(kd:Int)(r:List Tok):Option (El uS2):=tk 1 r fun _ r=>tk 4 r fun t r=>(zuO t.2.1).bind fun st=>tk 1 r fun _ r=>(itS r).map fun x=>cI tag kd st x
def SB8(tag:LB)(kd:Int)(r:List Tok):Option (El uS2):=tk 1 r fun _ r=>tk 4 r fun t r=>(zuO t.2.1).bind fun st=>tk 1 r fun _ r=>tk 4 r fun w r=>(zr0 w.2.1).bind fun mb=>tk 1 r fun _ r=>(zrg r).map fun f=>cS tag kd st mb.1 mb.2 f
theorem zwn(tag:LB)(kd:Int)(e:Tok)(he:e.1=0)(r:List Tok)(hl:r.length<=20000)(hk:∀ t ∈ r,xQ t):B7 200000 tag kd (r++[e])=zpl tag (SB7 tag kd r):=by
 have f1:¬ e.1=1:=by omega
 have f4:¬ e.1=4:=by omega
 unfold SB7
 cases r with
 |nil=>
  simp only[yj]
  unfold B7
  simp only[wg,cond_true,z8,wh,ya,zy,zn,yf,yd,eqF f1]
  rfl
 |cons s r=>
  simp only[ye]
  unfold B7
  by_cases h1:s.1=1
  ·cases r with
   |nil=>
    simp only[wg,cond_true,cond_false,z8,wh,ya,zy,zn,yf,yb,yd,yj,eqT h1,eqF f4,tk,if_pos h1]
    rfl
   |cons t r=>
    have hkt:=hk t (by simp)
    by_cases h4:t.1=4
    ·have hset:=zmN t.2.1 hkt.2.1
     cases hs:zuO t.2.1 with
     |none=>
      rw[hs] at hset
      simp only[wg,cond_true,cond_false,z8,wh,ya,zy,zn,yf,yb,yd,ye,eqT h1,eqT h4,hset,tk,if_pos h1,if_pos h4,hs,yS]
      rfl
     |some st=>
      rw[hs] at hset
      cases r with
      |nil=>
       simp only[wg,cond_true,cond_false,z8,wh,ya,zy,zn,yf,yb,yd,ye,yj,eqT h1,eqT h4,hset,eqF f1,tk,if_pos h1,if_pos h4,hs]
       rfl
      |cons s2 r=>
       have hkr:∀ t ∈ r,xQ t:=fun u hu=>hk u (yg _ (yg _ (yg _ hu)))
       have hlr:r.length<=20000:=by simp only[yh] at hl;omega
       by_cases h5:s2.1=1
       ·simp only[wg,cond_true,cond_false,z8,wh,ya,zy,zn,yf,yb,ye,eqT h1,eqT h4,hset,eqT h5,tk,if_pos h1,if_pos h4,hs,if_pos h5]
        exact zwr tag kd st e he r hlr hkr
       ·simp only[wg,cond_true,cond_false,z8,wh,ya,zy,zn,yf,yb,yd,ye,eqT h1,eqT h4,hset,eqF h5,tk,if_pos h1,if_pos h4,hs,if_neg h5]
        rfl
    ·simp only[wg,cond_true,cond_false,z8,wh,ya,zy,zn,yf,yb,yd,ye,eqT h1,eqF h4,tk,if_pos h1,if_neg h4]
     rfl
  ·simp only[wg,cond_true,z8,wh,ya,zy,zn,yf,yd,eqF h1,tk,if_neg h1]
   rfl
theorem zwo(tag:LB)(kd:Int)(e:Tok)(he:e.1=0)(r:List Tok)(hl:r.length<=20000)(hk:∀ t ∈ r,xQ t):B8 200000 tag kd (r++[e])=zpl tag (SB8 tag kd r):=by
 have f1:¬ e.1=1:=by omega
 have f4:¬ e.1=4:=by omega
 unfold SB8
 cases r with
 |nil=>
  simp only[yj]
  unfold B8
  simp only[wg,cond_true,z8,wh,ya,zy,zn,yf,yd,eqF f1]
  rfl
 |cons s r=>
  simp only[ye]
  unfold B8
  by_cases h1:s.1=1
  ·cases r with
   |nil=>
    simp only[wg,cond_true,cond_false,z8,wh,ya,zy,zn,yf,yb,yd,yj,eqT h1,eqF f4,tk,if_pos h1]
    rfl
   |cons t r=>
    have hkt:=hk t (by simp)
    by_cases h4:t.1=4
    ·have hset:=zmN t.2.1 hkt.2.1
     cases hs:zuO t.2.1 with
     |none=>
      rw[hs] at hset
      simp only[wg,cond_true,cond_false,z8,wh,ya,zy,zn,yf,yb,yd,ye,eqT h1,eqT h4,hset,tk,if_pos h1,if_pos h4,hs,yS]
      rfl
     |some st=>
      rw[hs] at hset
      cases r with
      |nil=>
       simp only[wg,cond_true,cond_false,z8,wh,ya,zy,zn,yf,yb,yd,ye,yj,eqT h1,eqT h4,hset,eqF f1,tk,if_pos h1,if_pos h4,hs]
       rfl
      |cons s2 r=>
       have hkr:∀ t ∈ r,xQ t:=fun u hu=>hk u (yg _ (yg _ (yg _ hu)))
       have hlr:r.length<=20000:=by simp only[yh] at hl;omega
       by_cases h5:s2.1=1
       ·simp only[wg,cond_true,cond_false,z8,wh,ya,zy,zn,yf,yb,ye,eqT h1,eqT h4,hset,eqT h5,tk,if_pos h1,if_pos h4,hs,if_pos h5]
        cases r with
        |nil=>
         simp only[wg,cond_true,wh,zy,zn,yd,yj,eqF f4]
         rfl
        |cons w r=>
         have hkw:=hkr w (by simp)
         by_cases h6:w.1=4
         ·have hup:=zev w.2.1 hkw.2.1
          obtain⟨u,b,i,hcut,hix,hmo⟩:=zr2 (w.2.1.map up) (by rw[yW];exact hkw.2.1)
          have hmS:zr0 w.2.1=zr1 (w.2.1.map up):=rfl
          cases hm:zr1 (w.2.1.map up) with
          |none=>
           rw[hm] at hmo
           simp only at hmo
           have hd:decide ((0:Int)<=i)=false:=by rw[hmo];rfl
           simp only[wg,cond_true,cond_false,wh,ya,zy,zn,yb,yd,ye,eqT h6,hup,hcut,hix,hd,if_pos h6,hmS,hm,yS]
           rfl
          |some mb=>
           obtain⟨m,b'⟩:=mb
           rw[hm] at hmo
           obtain⟨hm1,hm2,hm3⟩:=hmo
           subst hm1 hm2
           have hd:decide ((0:Int)<=i)=true:=by simpa using hm3
           cases r with
           |nil=>
            simp only[wg,cond_true,cond_false,wh,ya,zy,zn,yb,yd,ye,yj,eqT h6,hup,hcut,hix,hd,if_pos h6,hmS,hm,eqF f1]
            rfl
           |cons s3 r=>
            by_cases h7:s3.1=1
            ·simp only[wg,cond_true,cond_false,wh,ya,zy,zn,yb,ye,eqT h6,hup,hcut,hix,hd,if_pos h6,hmS,hm,eqT h7,if_pos h7]
             exact zws tag kd st i b' e he r (by simp only[yh] at hlr;omega) (fun u hu=>hkr u (yg _ (yg _ hu)))
            ·simp only[wg,cond_true,cond_false,wh,ya,zy,zn,yb,yd,ye,eqT h6,hup,hcut,hix,hd,if_pos h6,hmS,hm,eqF h7,if_neg h7]
             rfl
         ·simp only[wg,cond_true,wh,zy,zn,yd,ye,eqF h6,if_neg h6]
          rfl
       ·simp only[wg,cond_true,cond_false,z8,wh,ya,zy,zn,yf,yb,yd,ye,eqT h1,eqT h4,hset,eqF h5,tk,if_pos h1,if_pos h4,hs,if_neg h5]
        rfl
    ·simp only[wg,cond_true,cond_false,z8,wh,ya,zy,zn,yf,yb,yd,ye,eqT h1,eqF h4,tk,if_pos h1,if_neg h4]
     rfl
  ·simp only[wg,cond_true,z8,wh,ya,zy,zn,yf,yd,eqF h1,tk,if_neg h1]
   rfl
def SB5(tag:LB)(kd:Int)(r:List Tok):Option (El uS2):=tk 1 r fun _ r=>tkM r fun m r=>tkE r (cA tag kd m.2.1 0 [])
def SB6(tag:LB)(kd:Int)(r:List Tok):Option (El uS2):=tk 1 r fun _ r=>tkM r fun m r=>tk 1 r fun _ r=>(zne r).map fun p=>cA tag kd m.2.1 p.1 p.2
def zkh(tag:LB)(r:List Tok):Option (El uS2):=tk 4 r fun w r=>
 if zbw w.2.1=0 then none
 else if zbw w.2.1<=4 then tkE r (cA tag (zbw w.2.1) [] 0 [])
 else if zbw w.2.1=5 then SB5 tag (zbw w.2.1) r
 else if zbw w.2.1=6 then SB6 tag (zbw w.2.1) r
 else if zbw w.2.1=7 then SB7 tag (zbw w.2.1) r
 else SB8 tag (zbw w.2.1) r
theorem zvK{α:Type}{l:List α}{n:Nat}(h:l.length≠n):((((yc l):Nat):Int)==((n:Nat):Int))=false:=by simp;omega
def zeH(b:LB):El uS2×Bool:=
 if 0<run xC b/\b[run xC b]?=some 32 then
  (match zdt (b.drop (run xC b+1)) 200000 0 with
  |.inl l=>(match zkh (b.take (run xC b)) l.dropLast with
   |some c=>(c,true)
   |none=>(zpS (b.take (run xC b)),false))
  |.inr _=>(zpS (b.take (run xC b)),false))
 else(zpS [],false)
theorem zjP(b:LB)(hb:b.length<=20000):wv 200000 b=some ((zeH b).1,(zeH b).2,()):=by
 unfold wv
 rw[zvf 200000 b (by omega) (by omega)]
 unfold zBm zeH
 by_cases h:0<run xC b/\b[run xC b]?=some 32
 ·have hlt:=(List.getElem?_eq_some_iff.1 h.2).1
  rw[if_pos h,if_pos h]
  generalize run xC b=n at h hlt
  generalize b.take n=tag
  have hb1:jf ((n+1:Nat):Int) b=true:=zdS (by omega)
  simp only[ya,yb,cond_false,hb1,yf,cond_true,ym,zcl]
  have hdl:(b.drop (n+1)).length<=20000:=by rw[yF];omega
  rw[ztr 200000 (b.drop (n+1)) (by omega) (by omega) (by omega)]
  unfold zBo
  cases ht:zdt (b.drop (n+1)) 200000 0 with
  |inr a=>
   simp only[ya,show decide (((a:Nat):Int)<(0:Int))=false from by simp,yd,cond_true]
   rfl
  |inl l=>
   obtain⟨p,e,rfl,he,hk,hpl⟩:=ztq hdl 200000 0 l (by omega) ht
   simp only[ya,show decide ((-1:Int)<0)=true from rfl,yb,cond_false,vB]
   cases p with
   |nil=>
    have f4:¬ e.1=4:=by omega
    simp only[yj,wg,cond_true,z8,wh,ya,eqF f4,yd]
    rfl
   |cons w p=>
    have hkw:=hk w (yk ..)
    have hkp:∀ t ∈ p,xQ t:=fun t ht=>hk t (yg _ ht)
    have hlp:p.length<=20000:=by simp only[yh] at hpl;omega
    have hkv:=zt5 w.2.1 hkw.2.1
    simp only[ye,wg,cond_true,z8,wh,ya,zn,zrA _ hkw.2.1]
    rw[show List.drop 1 (w::(p++[e]))=p++[e] from rfl]
    unfold zkh
    by_cases h4:w.1=4
    ·simp only[eqT h4,yb,cond_false,tk,if_pos h4]
     generalize zbw w.2.1=k at hkv
     by_cases hz:k=0
     ·simp only[show decide ((0:Int)<k)=false from by simp;omega,yd,cond_true,if_pos hz]
      rfl
     ·simp only[show decide ((0:Int)<k)=true from by simp;omega,yb,cond_false,if_neg hz]
      have hR:∀ o:Option (El uS2),zpl tag o=some ((match o with
        |some c=>(c,true)
        |none=>(zpS tag,false):El uS2×Bool).1,(match o with
        |some c=>(c,true)
        |none=>(zpS tag,false):El uS2×Bool).2,()):=fun o=>by cases o<;>rfl
      have hB1:=zwk tag k e he p hkp
      have hB5:=zwl tag k e he p hlp hkp
      have hB6:=zwm tag k e he p hlp hkp
      have hB7:=zwn tag k e he p hlp hkp
      have hB8:=zwo tag k e he p hlp hkp
      rw[hR] at hB1 hB5 hB6 hB7 hB8
      by_cases hk4:k<=4
      ·rw[if_pos hk4,<- hB1]
       by_cases q1:k=1
       ·simp only[eqT q1,cond_true]
       ·by_cases q2:k=2
        ·simp only[eqF q1,eqT q2,cond_true,cond_false]
        ·by_cases q3:k=3
         ·simp only[eqF q1,eqF q2,eqT q3,cond_true,cond_false]
         ·simp only[eqF q1,eqF q2,eqF q3,eqT (show k=4 by omega),cond_true,cond_false]
      ·rw[if_neg hk4]
       simp only[eqF (show ¬ k=1 by omega),eqF (show ¬ k=2 by omega),eqF (show ¬ k=3 by omega),eqF (show ¬ k=4 by omega),cond_false]
       by_cases h5:k=5
       ·simp only[eqT h5,cond_true,if_pos h5]
        exact hB5
       ·simp only[eqF h5,cond_false,if_neg h5]
        by_cases h6:k=6
        ·simp only[eqT h6,cond_true,if_pos h6]
         exact hB6
        ·simp only[eqF h6,cond_false,if_neg h6]
         by_cases h7:k=7
         ·simp only[eqT h7,cond_true,if_pos h7]
          exact hB7
         ·simp only[eqF h7,cond_false,if_neg h7,eqT (show k=8 by omega),cond_true]
          exact hB8
    ·simp only[eqF h4,yd,cond_true,tk,if_neg h4]
     rfl
 ·rw[if_neg h,if_neg h]
  rfl
theorem zzv(t:LB)(k:Int)(m:LB)(st:List (Int×Int))(it mo:Int)(si:Bool)(fl:UInt8)(da:LB)(hst:st.length<=20001):∀ (n i:Nat),i<=st.length->st.length<n+i ->
  qh 200000 n (i:Int) t k m st it mo si fl da t k m st it mo si fl da=some (.inr (t,k,m,st,it,mo,si,fl,da,t,k,m,st,it,mo,si,fl,da))
 |0,i,h,h'=>by omega
 |n+1,i,h,h'=>by
  unfold qh zaf
  by_cases hi:i<st.length
  ·simp only[zhP hi,cond_true,jh hi,ym,wO (u:=.pair (.int .u32) (.int .u32)) hi,beq_self_eq_true,yf,yb,cond_false]
   rw[wri (by omega) (by omega),show((i:Int)+1)=((i+1:Nat):Int) by omega]
   exact zzv t k m st it mo si fl da hst n (i+1) (by omega) (by omega)
  ·simp only[zhO hi,cond_false]
theorem zmK(c:El uS2)(h:c.2.2.2.1.length<=20001):zS 200000 c c=some (true,()):=by
 obtain⟨t,k,m,st,it,mo,si,fl,da⟩:=c
 have hL:=zzv t k m st it mo si fl da h 200000 0 (by omega) (by simp only at h;omega)
 rw[show((0:Nat):Int)=(0:Int) from rfl] at hL
 unfold zS
 simp only[bne_self_eq_false,cond_false,hL,ya,ze,beq_self_eq_true,cond_true]
def zjl:List Frm->List (El uS2)->Option (List (El uS2))
 | [],out=>some out
 |fr::r,out=>if fr.1=2 then zjl r out else if(zeH fr.2).2=true/\fr.1=1 then zjl r (out++[(zeH fr.2).1]) else none
def prR{α:Type}:α ⊕ α->Option α
 |.inl _=>none
 |.inr o=>some o
theorem zn7(fs:List Frm)(hfs:fs.length<=100000)(hd:∀ fr ∈ fs,fr.2.length<=20000):∀ (m i:Nat) (out:List (El uS2)),i<=fs.length->fs.length<m+i->out.length<=i ->
  ∃ o,jH 200000 m fs ((fs.length:Nat):Int) (i:Int) out=some o/\prR o=zjl (fs.drop i) out
 |0,i,out,hi,h,ho=>by omega
 |m+1,i,out,hi,h,ho=>by
  unfold jH zbI
  by_cases hl:i<fs.length
  ·have hw:yr .i64 ((i:Int)+1)=((i+1:Nat):Int):=by rw[wri (by omega) (by omega)];omega
   have hdi:=hd fs[i] (yM hl)
   have hn:nth (.pair (.int .i64) (.sl .u8)) fs (yB (i:Int))=fs[i]:=by rw[ym];exact wO (u:=.pair (.int .i64) (.sl .u8)) hl
   have hlo:yP (out.length+1) zG=true:=zaj (by omega)
   simp only[zhP hl,cond_true,jh hl,hn,hw]
   rw[drop_one hl]
   unfold zjl
   by_cases h2:fs[i].1=2
   ·simp only[h2,beq_self_eq_true,cond_true,if_true]
    exact zn7 fs hfs hd m (i+1) out (by omega) (by omega) (by omega)
   ·simp only[beq_eq_false_iff_ne.2 h2,cond_false,if_neg h2]
    rw[zjP _ hdi]
    simp only[ya,hlo,cond_true]
    have ih1:=zn7 fs hfs hd m (i+1) (out++[(zeH fs[i].2).1]) (by omega) (by omega) (by simp;omega)
    cases hp:(zeH fs[i].2).2 with
    |false=>exact⟨_,rfl,rfl⟩
    |true=>
     simp only[yb,cond_false,true_and]
     by_cases h1:fs[i].1=1
     ·have:(fs[i].1 != 1)=false:=by simp [h1]
      rw[this,if_pos h1]
      exact ih1
     ·have:(fs[i].1 != 1)=true:=by simp [h1]
      rw[this,if_neg h1]
      exact⟨_,rfl,rfl⟩
  ·have:fs.drop i=[]:=yu (by omega)
   simp only[zhO hl,cond_false]
   rw[this]
   exact⟨_,rfl,rfl⟩
def zAc(b:LB):Option (List (El uS2)):=zjl (zdI b).1 []
theorem zuC{b:LB}(hb:b.length<=100000)(hc:(zdI b).1.length<=100000)(hd:∀ fr ∈ (zdI b).1,fr.2.length<=20000):zbn 200000 b=some (if(zdI b).2=0 then(match zAc b with|some o=>(o,true,())|none=>([],false,())) else([],false,())):=by
 unfold zbn
 rw[zj2 200000 hb (by omega),ya]
 by_cases h:(zdI b).2=0
 ·obtain⟨o,h1,h2⟩:=zn7 (zdI b).1 (by omega) hd 200000 0 [] (yK _) (by omega) (by simp)
  rw[show((0:Nat):Int)=0 from rfl] at h1
  have h0:¬ ((0:Int)<(((zdI b).2:Nat):Int)):=by omega
  simp only[h0,decide_false,cond_false,h1,ya,h,if_true]
  unfold zAc
  rw[yz] at h2
  rw[<- h2]
  cases o<;>rfl
 ·have h0:(0:Int)<(((zdI b).2:Nat):Int):=by omega
  simp only[h0,decide_true,cond_true,h,if_false]
theorem zsU(l:List (El uS2))(hl:l.length<=20000)(hs:∀ c ∈ l,c.2.2.2.1.length<=20001):∀ (m i:Nat),i<=l.length->l.length<m+i->wH 200000 m l l (i:Int)=some (.inr ())
 |0,i,hi,h=>by omega
 |m+1,i,hi,h=>by
  unfold wH zcG
  by_cases hlt:i<l.length
  ·have hw:yr .i64 ((i:Int)+1)=((i+1:Nat):Int):=by rw[wri (by omega) (by omega)];omega
   have hn:nth uK2 l (yB (i:Int))=l[i]:=by rw[ym];exact wO (u:=uK2) hlt
   simp only[zhP hlt,cond_true,jh hlt,hn,hw]
   rw[zmK l[i] (hs _ (yM hlt)),ya]
   simp only[yb,cond_false]
   exact zsU l hl hs m (i+1) (by omega) (by omega)
  ·simp only[zhO hlt,cond_false]
theorem zqo(l:List (El uS2))(hl:l.length<=20000)(hs:∀ c ∈ l,c.2.2.2.1.length<=20001):zch 200000 l l=some (true,()):=by
 unfold zch
 have:=zsU l hl hs 200000 0 (yK _) (by omega)
 rw[show((0:Nat):Int)=0 from rfl] at this
 simp only[bne_self_eq_false,cond_false,this,ya,ze]
theorem zlE(c:Bool)(b:Bool):cond c (some (b,())) (some (false,()))=some (c&&b,()):=by cases c<;>rfl
theorem zvX(t k m it mo si fl da t' k' m' it' mo' si' fl' da')(st:List (Int×Int))(hst:st.length<=20001):∀ (n i:Nat),i<=st.length->st.length<n+i ->
  qh 200000 n (i:Int) t k m st it mo si fl da t' k' m' st it' mo' si' fl' da'=some (.inr (t,k,m,st,it,mo,si,fl,da,t',k',m',st,it',mo',si',fl',da'))
 |0,i,h,h'=>by omega
 |n+1,i,h,h'=>by
  unfold qh zaf
  by_cases hi:i<st.length
  ·simp only[zhP hi,cond_true,jh hi,ym,wO (u:=.pair (.int .u32) (.int .u32)) hi,beq_self_eq_true,yf,yb,cond_false]
   rw[wri (by omega) (by omega),show((i:Int)+1)=((i+1:Nat):Int) by omega]
   exact zvX t k m it mo si fl da t' k' m' it' mo' si' fl' da' st hst n (i+1) (by omega) (by omega)
  ·simp only[zhO hi,cond_false]
def zfB(a b:El uS2):Bool:=a.2.2.2.2.2.2.2.2==b.2.2.2.2.2.2.2.2&&(a.1==b.1&&(a.2.1==b.2.1&&(a.2.2.1==b.2.2.1&&(a.2.2.2.2.1==b.2.2.2.2.1&&(a.2.2.2.2.2.1==b.2.2.2.2.2.1&&(a.2.2.2.2.2.2.1==b.2.2.2.2.2.2.1&&a.2.2.2.2.2.2.2.1==b.2.2.2.2.2.2.2.1))))))
theorem zpo(a b:El uS2)(hs:a.2.2.2.1=b.2.2.2.1)(h:a.2.2.2.1.length<=20001):zS 200000 a b=some (zfB a b,()):=by
 obtain⟨t,k,m,st,it,mo,si,fl,da⟩:=a
 obtain⟨t',k',m',st',it',mo',si',fl',da'⟩:=b
 simp only at hs h
 subst hs
 have hL:=zvX t k m it mo si fl da t' k' m' it' mo' si' fl' da' st h 200000 0 (by omega) (by omega)
 rw[show((0:Nat):Int)=(0:Int) from rfl] at hL
 unfold zS zfB
 simp only[bne_self_eq_false,cond_false,hL,ya,ze]
 simp only[bne]
 cases da==da'<;>simp only[yb,yd,cond_true,cond_false,yA,Bool.false_and,zlE]
theorem zuG(a b:El uS2)(hs:a.2.2.2.1.length≠b.2.2.2.1.length):zS 200000 a b=some (false,()):=by
 unfold zS
 have:((((yc a.2.2.2.1):Nat):Int) != (((yc b.2.2.2.1):Nat):Int))=true:=by simp;omega
 simp only[this,cond_true]
theorem zz8(N:Nat)(s:LB)(hs:s.length<=100000):∀ (m i:Nat),i<=s.length->s.length<m+i ->
  qd N m s (s.length:Int) (i:Int)=some (if(s.drop i).all xC=true then Sum.inr () else Sum.inl ())
 |0,i,h,h'=>by omega
 |m+1,i,h,h'=>by
  unfold qd zaS
  by_cases hi:i<s.length
  ·simp only[zhP hi,cond_true,jh hi,ym,wO (u:=.u8) hi,zB3,ya,drop_one hi,yH]
   cases hc:xC s[i] with
   |true=>
    simp only[yb,cond_false,yA]
    rw[wri (by omega) (by omega),show((i:Int)+1)=((i+1:Nat):Int) by omega]
    exact zz8 N s hs m (i+1) (by omega) (by omega)
   |false=>simp
  ·simp only[zhO hi,cond_false]
   rw[yO (by omega)]
   simp
theorem zvY(N:Nat)(s:LB)(hs:s.length<=100000):∀ (m i:Nat),i<=s.length->s.length<m+i ->
  j0 N m s (i:Int)=some (if(s.drop i).all xC=true then Sum.inr s else Sum.inl ())
 |0,i,h,h'=>by omega
 |m+1,i,h,h'=>by
  unfold j0 zcd
  by_cases hi:i<s.length
  ·simp only[zhP hi,cond_true,jh hi,ym,wO (u:=.u8) hi,zCG,ya,drop_one hi,yH]
   cases hc:xC s[i] with
   |true=>
    simp only[yb,cond_false,yA]
    rw[wri (by omega) (by omega),show((i:Int)+1)=((i+1:Nat):Int) by omega]
    exact zvY N s hs m (i+1) (by omega) (by omega)
   |false=>simp
  ·simp only[zhO hi,cond_false]
   rw[yO (by omega)]
   simp
def zfK(s:LB):Bool:=s != []&&s.all xC
theorem zrw(s:LB)(hs:s.length<=20000):zbo 200000 s=some (zfK s,()):=by
 have hL:=zvY 200000 s (by omega) 200000 0 (by omega) (by omega)
 rw[show((0:Nat):Int)=(0:Int) from rfl,yz] at hL
 unfold zbo zfK
 rw[hL]
 cases s.all xC<;>simp [ze]
theorem zyQ(st:List (Int×Int)):zI 200000 st []=some (decide (st=[]),()):=by
 unfold zI
 cases st with
 |nil=>rfl
 |cons a r=>
  have:((((yc (a::r)):Nat):Int) != (((yc ([]:List (Int×Int))):Nat):Int))=true:=by simp;omega
  simp only[this,cond_true]
  simp
def zvm(m:LB)(st:List (Int×Int))(it mo:Int)(si:Bool)(fl:UInt8)(da:LB):Bool:=m==[]&&(decide (st=[])&&(it==0&&(mo==0&&(si==false&&(fl==0&&da==[])))))
theorem zsV(m:LB)(st:List (Int×Int))(it mo:Int)(si:Bool)(fl:UInt8)(da:LB):
  qU 200000 (([]:LB),((0:Int),(m,(st,(it,(mo,(si,(fl,da)))))))) (([]:LB),((0:Int),(([]:LB),(([]:List (Int×Int)),((0:Int),((0:Int),(false,((0:UInt8),([]:LB)))))))))=some (zvm m st it mo si fl da,()):=by
 unfold qU zvm
 simp only[beq_self_eq_true,cond_true,zyQ,ya,zlE]
theorem ztD(k:Int):∃ v,qE 200000 k=some (v,())/\(v==([]:LB))=!(decide (1<=k)&&decide (k<=8)):=by
 unfold qE
 by_cases h1:1<=k
 ·by_cases h8:k<=8
  ·have e1:decide ((1:Int)<=k)=true:=by simpa using h1
   have e2:decide (k<=(8:Int))=true:=by simpa using h8
   simp only[e1,e2,cond_true]
   have:k=1\/k=2\/k=3\/k=4\/k=5\/k=6\/k=7\/k=8:=by omega
   rcases this with rfl|rfl|rfl|rfl|rfl|rfl|rfl|rfl<;>exact⟨_,rfl,rfl⟩
  ·have e1:decide ((1:Int)<=k)=true:=by simpa using h1
   have e2:decide (k<=(8:Int))=false:=by simpa using h8
   simp only[e1,e2,cond_true,cond_false]
   exact⟨_,rfl,rfl⟩
 ·have e1:decide ((1:Int)<=k)=false:=by simpa using h1
  simp only[e1,cond_false]
  exact⟨_,rfl,rfl⟩
def VP(t:LB)(k:Int)(m:LB)(st:List (Int×Int))(it mo:Int)(si:Bool)(fl:UInt8)(da:LB):Prop:=
 zfK t=true/\1<=k/\k<=8/\m.length<=65536/\da.length<=65536/\fl<=31 /\
 ((k=5/\st=[]/\it=0/\mo=0/\si=false/\fl=0/\da=[])\/(k=6/\st=[]/\it=0/\mo=0/\si=false) \/
  (k=7/\m=[]/\st≠[]/\1<=it/\it<=31/\mo=0/\si=false/\fl=0/\da=[])\/(k=8/\m=[]/\st≠[]/\it=0/\0<=mo/\mo<=2/\da=[]) \/
  (k<=4/\m=[]/\st=[]/\it=0/\mo=0/\si=false/\fl=0/\da=[]))
def ztG(o:Option (Bool×Unit))(p:Prop):Prop:=∃ b:Bool,o=some (b,())/\(b=true↔p)
theorem km{p:Prop}(h:¬ p):ztG (some (false,())) p:=⟨false,rfl,by simp [h]⟩
theorem zmL{b:Bool}{p:Prop}(h:b=true↔p):ztG (some (b,())) p:=⟨b,rfl,h⟩
theorem max_le(a b:Nat):decide ((65536:Int)<(if((b:Nat):Int) > ((a:Nat):Int) then((b:Nat):Int) else((a:Nat):Int)))=!(decide (a<=65536)&&decide (b<=65536)):=by
 rw[vn]
 by_cases h:((b:Nat):Int) > ((a:Nat):Int)
 ·rw[if_pos h];simp;omega
 ·rw[if_neg h];simp;omega
theorem zeh{m:LB}{st:List (Int×Int)}{it mo:Int}{si:Bool}{fl:UInt8}{da:LB}:zvm m st it mo si fl da=true↔m=[]/\st=[]/\it=0/\mo=0/\si=false/\fl=0/\da=[]:=by
 unfold zvm
 simp only[yn,beq_iff_eq,decide_eq_true_eq]
theorem zkb(t:LB)(k:Int)(m:LB)(st:List (Int×Int))(it mo:Int)(si:Bool)(fl:UInt8)(da:LB)(ht:t.length<=20000):
  ztG (kM 200000 (t,(k,(m,(st,(it,(mo,(si,(fl,da)))))))))  (VP t k m st it mo si fl da):=by
 have hL:=zz8 200000 t (by omega) 200000 0 (by omega) (by omega)
 rw[show((0:Nat):Int)=(0:Int) from rfl,yz] at hL
 obtain⟨v,hv1,hv2⟩:=ztD k
 unfold kM
 simp only[hL,hv1,ya,hv2,max_le]
 by_cases h0:t=[]
 ·have:(t != ([]:LB))=false:=by simpa using h0
  simp only[this,cond_false]
  exact km (fun h=>by have:=h.1;simp [zfK,h0] at this)
 ·have e0:(t != ([]:LB))=true:=by simpa using h0
  simp only[e0,cond_true]
  cases hall:t.all xC with
  |false=>
   simp only[yG,if_false,ze]
   exact km (fun h=>by have:=h.1;simp [zfK,hall] at this)
  |true=>
   have hit:zfK t=true:=by unfold zfK;rw[e0,hall];rfl
   simp only[if_true,ze]
   by_cases h18:1<=k/\k<=8
   ·have e1:(decide ((1:Int)<=k)&&decide (k<=(8:Int)))=true:=by simpa using h18
    simp only[e1,yb,cond_false]
    by_cases hf:fl<=31
    ·have e2:decide ((31:UInt8)<fl)=false:=by
      rw[decide_eq_false_iff_not];exact UInt8.not_lt.2 hf
     simp only[e2,cond_false]
     by_cases hml:m.length<=65536/\da.length<=65536
     ·have e3:(decide (m.length<=65536)&&decide (da.length<=65536))=true:=by simpa using hml
      simp only[e3,yb,cond_false]
      by_cases h5:k=5
      ·simp only[eqT h5,cond_true]
       rw[zsV,ya]
       refine zmL ?_
       unfold VP
       rw[zeh]
       constructor
       ·rintro⟨_,a1,a2,a3,a4,a5,a6⟩
        exact⟨hit,h18.1,h18.2,hml.1,hml.2,hf,.inl ⟨h5,a1,a2,a3,a4,a5,a6⟩⟩
       ·rintro⟨_,_,_,_,_,_,h|h|h|h|h⟩
        ·exact⟨rfl,h.2⟩
        ·omega
        ·omega
        ·omega
        ·omega
      ·simp only[eqF h5,cond_false]
       by_cases h6:k=6
       ·simp only[eqT h6,cond_true]
        rw[zsV,ya]
        refine zmL ?_
        unfold VP
        rw[zeh]
        constructor
        ·rintro⟨_,a1,a2,a3,a4,_,_⟩
         exact⟨hit,h18.1,h18.2,hml.1,hml.2,hf,.inr (.inl ⟨h6,a1,a2,a3,a4⟩)⟩
        ·rintro⟨_,_,_,_,_,_,h|h|h|h|h⟩
         ·omega
         ·exact⟨rfl,h.2.1,h.2.2.1,h.2.2.2.1,h.2.2.2.2,rfl,rfl⟩
         ·omega
         ·omega
         ·omega
       ·simp only[eqF h6,cond_false]
        by_cases h7:k=7
        ·simp only[eqT h7,cond_true]
         by_cases hst:st=[]
         ·simp only[hst,yo,show(((0:Nat):Int)==(0:Int))=true from rfl,cond_true]
          exact km (fun h=>by
           obtain⟨_,_,_,_,_,_,h|h|h|h|h⟩:=h
           ·omega
           ·omega
           ·exact h.2.2.1 rfl
           ·omega
           ·omega)
         ·have e4:((((yc st):Nat):Int)==(0:Int))=false:=zvK (n:=0) (by simpa using hst)
          simp only[e4,cond_false]
          by_cases hi1:it<1
          ·simp only[show decide (it<(1:Int))=true from by simpa using hi1,cond_true]
           exact km (fun h=>by
            obtain⟨_,_,_,_,_,_,h|h|h|h|h⟩:=h<;>omega)
          ·simp only[show decide (it<(1:Int))=false from by simpa using hi1,cond_false]
           by_cases hi2:31<it
           ·simp only[show decide ((31:Int)<it)=true from by simpa using hi2,cond_true]
            exact km (fun h=>by
             obtain⟨_,_,_,_,_,_,h|h|h|h|h⟩:=h<;>omega)
           ·simp only[show decide ((31:Int)<it)=false from by simpa using hi2,cond_false]
            rw[zsV,ya]
            refine zmL ?_
            unfold VP
            rw[zeh]
            constructor
            ·rintro⟨a0,_,_,a3,a4,a5,a6⟩
             exact⟨hit,h18.1,h18.2,hml.1,hml.2,hf,.inr (.inr (.inl ⟨h7,a0,hst,by omega,by omega,a3,a4,a5,a6⟩))⟩
            ·rintro⟨_,_,_,_,_,_,h|h|h|h|h⟩
             ·omega
             ·omega
             ·exact⟨h.2.1,rfl,rfl,h.2.2.2.2.2⟩
             ·omega
             ·omega
        ·simp only[eqF h7,cond_false]
         by_cases h8:k=8
         ·simp only[eqT h8,cond_true]
          by_cases hst:st=[]
          ·simp only[hst,yo,show(((0:Nat):Int)==(0:Int))=true from rfl,cond_true]
           exact km (fun h=>by
            obtain⟨_,_,_,_,_,_,h|h|h|h|h⟩:=h
            ·omega
            ·omega
            ·omega
            ·exact h.2.2.1 rfl
            ·omega)
          ·have e4:((((yc st):Nat):Int)==(0:Int))=false:=zvK (n:=0) (by simpa using hst)
           simp only[e4,cond_false]
           by_cases hi1:mo<0
           ·simp only[show decide (mo<(0:Int))=true from by simpa using hi1,cond_true]
            exact km (fun h=>by
             obtain⟨_,_,_,_,_,_,h|h|h|h|h⟩:=h<;>omega)
           ·simp only[show decide (mo<(0:Int))=false from by simpa using hi1,cond_false]
            by_cases hi2:2<mo
            ·simp only[show decide ((2:Int)<mo)=true from by simpa using hi2,cond_true]
             exact km (fun h=>by
              obtain⟨_,_,_,_,_,_,h|h|h|h|h⟩:=h<;>omega)
            ·simp only[show decide ((2:Int)<mo)=false from by simpa using hi2,cond_false]
             rw[zsV,ya]
             refine zmL ?_
             unfold VP
             rw[zeh]
             constructor
             ·rintro⟨a0,_,a2,_,_,_,a6⟩
              exact⟨hit,h18.1,h18.2,hml.1,hml.2,hf,.inr (.inr (.inr (.inl ⟨h8,a0,hst,a2,by omega,by omega,a6⟩)))⟩
             ·rintro⟨_,_,_,_,_,_,h|h|h|h|h⟩
              ·omega
              ·omega
              ·omega
              ·exact⟨h.2.1,rfl,h.2.2.2.1,rfl,rfl,rfl,h.2.2.2.2.2.2⟩
              ·omega
         ·simp only[eqF h8,cond_false]
          rw[zsV,ya]
          refine zmL ?_
          unfold VP
          rw[zeh]
          constructor
          ·rintro⟨a0,a1,a2,a3,a4,a5,a6⟩
           exact⟨hit,h18.1,h18.2,hml.1,hml.2,hf,.inr (.inr (.inr (.inr ⟨by omega,a0,a1,a2,a3,a4,a5,a6⟩)))⟩
          ·rintro⟨_,_,_,_,_,_,h|h|h|h|h⟩
           ·omega
           ·omega
           ·omega
           ·omega
           ·exact h.2
     ·have e3:(decide (m.length<=65536)&&decide (da.length<=65536))=false:=by
       rw[vF];intro h;exact hml (by simpa using h)
      simp only[e3,yd,cond_true]
      exact km (fun h=>hml ⟨h.2.2.2.1,h.2.2.2.2.1⟩)
    ·have e2:decide ((31:UInt8)<fl)=true:=by
      rw[decide_eq_true_eq];exact UInt8.not_le.1 hf
     simp only[e2,cond_true]
     exact km (fun h=>hf h.2.2.2.2.2.1)
   ·have e1:(decide ((1:Int)<=k)&&decide (k<=(8:Int)))=false:=by
     rw[vF];intro h;exact h18 (by simpa using h)
    simp only[e1,yd,cond_true]
    exact km (fun h=>h18 ⟨h.2.1,h.2.2.1⟩)
theorem zea{o:Option (Bool×Unit)}{p:Prop}(h:ztG o p):ztG (yC o fun y=>some (y.1,())) p:=by
 obtain⟨b,h1,h2⟩:=h
 rw[h1];exact⟨b,rfl,h2⟩
theorem zgb{o:Option (Bool×Unit)}{p q:Prop}(h:ztG o p)(hpq:p↔q):ztG o q:=by
 obtain⟨b,h1,h2⟩:=h
 exact⟨b,h1,h2.trans hpq⟩
theorem zsI(a b:El uS2)(hb:b.2.2.2.1=[])(h:a.2.2.2.1.length<=20001):ztG (zS 200000 a b) (a.2.2.2.1=[]/\zfB a b=true):=by
 by_cases ha:a.2.2.2.1=[]
 ·exact⟨_,zpo a b (by rw[ha,hb]) h,by simp [ha]⟩
 ·refine⟨false,zuG a b ?_,by simp [ha]⟩
  rw[hb]
  intro h0
  exact ha (vu.1 h0)
theorem zzm(a b:El uS2)(hb:a.2.2.2.1=b.2.2.2.1)(h:a.2.2.2.1.length<=20001):ztG (zS 200000 a b) (zfB a b=true):=⟨_,zpo a b hb h,Iff.rfl⟩
theorem zm5(t:LB)(k:Int)(m:LB)(st:List (Int×Int))(it mo:Int)(si:Bool)(fl:UInt8)(da:LB)(ht:t.length<=20000)(hst:st.length<=20001):
  ztG (zbq 200000 (t,(k,(m,(st,(it,(mo,(si,(fl,da)))))))))  (VP t k m st it mo si fl da):=by
 have hit:=zrw t ht
 unfold zbq
 simp only[hit,ya]
 cases hT:zfK t with
 |false=>
  simp only[yd,cond_true]
  exact km (fun h=>by have:=h.1;rw[hT] at this;cases this)
 |true=>
  simp only[yb,cond_false]
  by_cases h1:k<1
  ·simp only[show decide (k<(1:Int))=true from by simpa using h1,cond_true]
   exact km (fun h=>by have:=h.2.1;omega)
  ·simp only[show decide (k<(1:Int))=false from by simpa using h1,cond_false]
   by_cases h8:8<k
   ·simp only[show decide ((8:Int)<k)=true from by simpa using h8,cond_true]
    exact km (fun h=>by have:=h.2.2.1;omega)
   ·simp only[show decide ((8:Int)<k)=false from by simpa using h8,cond_false]
    by_cases h5:k=5
    ·simp only[eqT h5,cond_true]
     by_cases hm:m.length<=65536
     ·simp only[show decide ((((yc m):Nat):Int)<=(65536:Int))=true from by simp;omega,cond_true]
      refine zgb (zea (zsI _ _ rfl hst)) ?_
      unfold VP zfB
      simp only[beq_self_eq_true,yA,yn,beq_iff_eq]
      constructor
      ·rintro⟨a1,a6,a2,a3,a4,a5⟩
       exact⟨hT,by omega,by omega,hm,by rw[a6];simp,by rw[a5];decide,.inl ⟨h5,a1,a2,a3,a4,a5,a6⟩⟩
      ·rintro⟨_,_,_,_,_,_,h|h|h|h|h⟩
       ·exact⟨h.2.1,h.2.2.2.2.2.2,h.2.2.1,h.2.2.2.1,h.2.2.2.2.1,h.2.2.2.2.2.1⟩
       ·omega
       ·omega
       ·omega
       ·omega
     ·simp only[show decide ((((yc m):Nat):Int)<=(65536:Int))=false from by simp;omega,cond_false]
      exact km (fun h=>hm h.2.2.2.1)
    ·simp only[eqF h5,cond_false]
     by_cases h6:k=6
     ·simp only[eqT h6,cond_true]
      by_cases hm:m.length<=65536
      ·simp only[show decide ((((yc m):Nat):Int)<=(65536:Int))=true from by simp;omega,cond_true]
       by_cases hd:da.length<=65536
       ·simp only[show decide ((((yc da):Nat):Int)<=(65536:Int))=true from by simp;omega,cond_true]
        by_cases hf:fl<=31
        ·simp only[show decide (fl<=(31:UInt8))=true from by simpa using hf,cond_true]
         refine zgb (zea (zsI _ _ rfl hst)) ?_
         unfold VP zfB
         simp only[beq_self_eq_true,yA,yf,yn,beq_iff_eq]
         constructor
         ·rintro⟨a1,a2,a3,a4⟩
          exact⟨hT,by omega,by omega,hm,hd,hf,.inr (.inl ⟨h6,a1,a2,a3,a4⟩)⟩
         ·rintro⟨_,_,_,_,_,_,h|h|h|h|h⟩
          ·omega
          ·exact h.2
          ·omega
          ·omega
          ·omega
        ·simp only[show decide (fl<=(31:UInt8))=false from by simpa using hf,cond_false]
         exact km (fun h=>hf h.2.2.2.2.2.1)
       ·simp only[show decide ((((yc da):Nat):Int)<=(65536:Int))=false from by simp;omega,cond_false]
        exact km (fun h=>hd h.2.2.2.2.1)
      ·simp only[show decide ((((yc m):Nat):Int)<=(65536:Int))=false from by simp;omega,cond_false]
       exact km (fun h=>hm h.2.2.2.1)
     ·simp only[eqF h6,cond_false]
      by_cases h7:k=7
      ·simp only[eqT h7,cond_true]
       by_cases hs:st=[]
       ·simp only[hs,yo,show decide ((0:Int)<((0:Nat):Int))=false from rfl,cond_false]
        exact km (fun h=>by
         obtain⟨_,_,_,_,_,_,h|h|h|h|h⟩:=h
         ·omega
         ·omega
         ·exact h.2.2.1 rfl
         ·omega
         ·omega)
       ·have:0<st.length:=vC.2 hs
        simp only[show decide ((0:Int)<(((yc st):Nat):Int))=true from by simp;omega,cond_true]
        by_cases hi1:1<=it
        ·simp only[show decide ((1:Int)<=it)=true from by simpa using hi1,cond_true]
         by_cases hi2:it<=31
         ·simp only[show decide (it<=(31:Int))=true from by simpa using hi2,cond_true]
          refine zgb (zea (zzm _ _ rfl hst)) ?_
          unfold VP zfB
          simp only[beq_self_eq_true,yA,yn,beq_iff_eq]
          constructor
          ·rintro⟨a6,a0,a3,a4,a5⟩
           exact⟨hT,by omega,by omega,by rw[a0];simp,by rw[a6];simp,by rw[a5];decide,.inr (.inr (.inl ⟨h7,a0,hs,hi1,hi2,a3,a4,a5,a6⟩))⟩
          ·rintro⟨_,_,_,_,_,_,h|h|h|h|h⟩
           ·omega
           ·omega
           ·exact⟨h.2.2.2.2.2.2.2.2,h.2.1,h.2.2.2.2.2.1,h.2.2.2.2.2.2.1,h.2.2.2.2.2.2.2.1⟩
           ·omega
           ·omega
         ·simp only[show decide (it<=(31:Int))=false from by simpa using hi2,cond_false]
          exact km (fun h=>by
           obtain⟨_,_,_,_,_,_,h|h|h|h|h⟩:=h<;>omega)
        ·simp only[show decide ((1:Int)<=it)=false from by simpa using hi1,cond_false]
         exact km (fun h=>by
          obtain⟨_,_,_,_,_,_,h|h|h|h|h⟩:=h<;>omega)
      ·simp only[eqF h7,cond_false]
       by_cases h9:k=8
       ·simp only[eqT h9,cond_true]
        by_cases hs:st=[]
        ·simp only[hs,yo,show decide ((0:Int)<((0:Nat):Int))=false from rfl,cond_false]
         exact km (fun h=>by
          obtain⟨_,_,_,_,_,_,h|h|h|h|h⟩:=h
          ·omega
          ·omega
          ·omega
          ·exact h.2.2.1 rfl
          ·omega)
        ·have:0<st.length:=vC.2 hs
         simp only[show decide ((0:Int)<(((yc st):Nat):Int))=true from by simp;omega,cond_true]
         by_cases hi1:0<=mo
         ·simp only[show decide ((0:Int)<=mo)=true from by simpa using hi1,cond_true]
          by_cases hi2:mo<=2
          ·simp only[show decide (mo<=(2:Int))=true from by simpa using hi2,cond_true]
           by_cases hf:fl<=31
           ·simp only[show decide (fl<=(31:UInt8))=true from by simpa using hf,cond_true]
            refine zgb (zea (zzm _ _ rfl hst)) ?_
            unfold VP zfB
            simp only[beq_self_eq_true,yA,yf,yn,beq_iff_eq]
            constructor
            ·rintro⟨a6,a0,a3⟩
             exact⟨hT,by omega,by omega,by rw[a0];simp,by rw[a6];simp,hf,.inr (.inr (.inr (.inl ⟨h9,a0,hs,a3,hi1,hi2,a6⟩)))⟩
            ·rintro⟨_,_,_,_,_,_,h|h|h|h|h⟩
             ·omega
             ·omega
             ·omega
             ·exact⟨h.2.2.2.2.2.2,h.2.1,h.2.2.2.1⟩
             ·omega
           ·simp only[show decide (fl<=(31:UInt8))=false from by simpa using hf,cond_false]
            exact km (fun h=>hf h.2.2.2.2.2.1)
          ·simp only[show decide (mo<=(2:Int))=false from by simpa using hi2,cond_false]
           exact km (fun h=>by
            obtain⟨_,_,_,_,_,_,h|h|h|h|h⟩:=h<;>omega)
         ·simp only[show decide ((0:Int)<=mo)=false from by simpa using hi1,cond_false]
          exact km (fun h=>by
           obtain⟨_,_,_,_,_,_,h|h|h|h|h⟩:=h<;>omega)
       ·simp only[eqF h9,cond_false]
        refine zgb (zea (zsI _ _ rfl hst)) ?_
        unfold VP zfB
        simp only[beq_self_eq_true,yA,yn,beq_iff_eq]
        constructor
        ·rintro⟨a1,a6,a0,a2,a3,a4,a5⟩
         exact⟨hT,by omega,by omega,by rw[a0];simp,by rw[a6];simp,by rw[a5];decide,.inr (.inr (.inr (.inr ⟨by omega,a0,a1,a2,a3,a4,a5,a6⟩)))⟩
        ·rintro⟨_,_,_,_,_,_,h|h|h|h|h⟩
         ·omega
         ·omega
         ·omega
         ·omega
         ·exact⟨h.2.2.1,h.2.2.2.2.2.2.2,h.2.1,h.2.2.2.1,h.2.2.2.2.1,h.2.2.2.2.2.1,h.2.2.2.2.2.2.1⟩
theorem zdc{a b:Nat}(h:a+b<4611686018427387904):decide (a+b<4611686018427387904)=true:=decide_eq_true h
theorem znj{a:Nat}(h:a<549755813888):yP a zG=true:=by rw[vE];exact h
def zlq(b:LB):LB:=[123]++dec b.length++[125,13,10]++b
theorem zo8(b:LB)(hb:b.length<=100000):jQ 200000 b=some (zlq b,()):=by
 unfold jQ zlq
 have hd:=zib b.length
 rw[zpG (by omega),zkq 200000 b.length (by omega) (by omega)]
 simp only[ya]
 generalize dec b.length=d at hd |-
 simp (disch:=(simp only[yi,yh,yo];omega)) only[zdc,cond_true]
 have hH:((([123]:LB)++d)++([125]:LB))++([13,10]:LB)=[123]++d++[125,13,10]:=by simp
 rw[hH]
 have hl:([123]++d++[125,13,10]:LB).length=d.length+4:=by simp
 generalize([123]++d++[125,13,10]:LB)=H at hl |-
 rw[wri (by omega) (by omega),show((H.length:Int)+(b.length:Int))=((H.length+b.length:Nat):Int) by omega]
 simp only[ym,vA]
 rw[decide_eq_true (show((H.length+b.length:Nat):Int)<=((H.length+b.length:Nat):Int) by omega),decide_eq_true (show(0:Int)<=((H.length+b.length:Nat):Int) by omega),decide_eq_true (show((H.length+b.length:Nat):Int)<(549755813888:Int) by omega)]
 simp only[vw,vK,cond_true]
 rw[yZ (show H.length<=H.length+b.length by omega),Nat.min_eq_left (show H.length<=H.length+b.length by omega)]
 have hu:zaF (yD (H.length+b.length) (0:UInt8)) 0 H=H++yD b.length 0:=by
  unfold zaF
  rw[vq,yj,vz,List.drop_replicate,yY]
 rw[hu]
 rw[wR (show H.length<=(H++yD b.length (0:UInt8)).length by simp) (vo _)]
 simp only[vK,cond_true]
 have hv:zaF (H++yD b.length (0:UInt8)) H.length (List.take ((H++yD b.length (0:UInt8)).length-H.length) b)=H++b:=by
  unfold zaF
  rw[yi,vA,yY,List.take_length,vg,List.drop_append,yu (by omega)]
  simp
 rw[hv]
theorem zl7(b:LB)(hb:b.length<=100000):wG 200000 b=some (zlq b,()):=by
 unfold wG zlq
 have hd:=zib b.length
 rw[zpG (by omega),zns 200000 b.length (by omega) (by omega)]
 simp only[ya]
 generalize dec b.length=d at hd |-
 simp (disch:=(simp only[yi,yh,yo];omega)) only[zdc,znj,cond_true]
def zpR(c:UInt8):LB:=if c=34\/c=92 then[92,c] else[c]
def esc(s:LB):LB:=s.flatMap zpR
theorem zkt:∀ s:LB,(esc s).length<=2*s.length
 | []=>by simp [esc]
 |c::s=>by
  have:=zkt s
  unfold esc at this |-
  rw[yX,yi]
  have h1:(zpR c).length<=2:=by unfold zpR;split<;>simp
  simp only[yh];omega
def zgs(s:LB):Option LB:=if s.all zbj=true then some ([34]++esc s++[34]) else none
def prU{α β:Type}:α ⊕ β->Option β
 |.inl _=>none
 |.inr o=>some o
theorem zhN(N:Nat){s:LB}(hs:s.length<=20000):∀ (m i:Nat) (out:LB),i<=s.length->s.length<m+i->out.length<=2*i+1 ->
  ∃ o,qn N m s ((s.length:Nat):Int) (i:Int) out=some o/\prU o=if(s.drop i).all zbj=true then some (out++esc (s.drop i)) else none
 |0,i,out,hi,h,ho=>by omega
 |m+1,i,out,hi,h,ho=>by
  unfold qn za8
  by_cases hl:i<s.length
  ·have hw:yr .i64 ((i:Int)+1)=((i+1:Nat):Int):=by rw[wri (by omega) (by omega)];omega
   have hn:nth .u8 s (yB (i:Int))=s[i]:=by rw[ym];exact wO (u:=.u8) hl
   simp only[zhP hl,cond_true,jh hl,hn,hw,zxH,ya]
   rw[drop_one hl,yH]
   cases ht:zbj s[i] with
   |false=>exact⟨_,rfl,by simp [prU]⟩
   |true=>
    simp only[yb,cond_false,yA]
    have b1:yP (out.length+1) zG=true:=zaj (by omega)
    have b2:yP ((out++[(92:UInt8)]).length+1) zG=true:=zaj (by simp;omega)
    have he:esc (s[i]::s.drop (i+1))=zpR s[i]++esc (s.drop (i+1)):=by unfold esc;rw[yX]
    rw[he]
    by_cases c1:s[i]=34
    ·obtain⟨o,h1,h2⟩:=zhN N hs m (i+1) (out++[92]++[s[i]]) (by omega) (by omega) (by simp;omega)
     refine⟨o,?_,?_⟩
     ·simp only[c1,beq_self_eq_true,cond_true,b1,b2] at h1 |-;exact h1
     ·rw[h2];simp [zpR,c1]
    ·by_cases c2:s[i]=92
     ·obtain⟨o,h1,h2⟩:=zhN N hs m (i+1) (out++[92]++[s[i]]) (by omega) (by omega) (by simp;omega)
      refine⟨o,?_,?_⟩
      ·have:((92:UInt8)==34)=false:=rfl
       simp only[c2,this,beq_self_eq_true,cond_true,cond_false,b1,b2] at h1 |-;exact h1
      ·rw[h2];simp [zpR,c2]
     ·obtain⟨o,h1,h2⟩:=zhN N hs m (i+1) (out++[s[i]]) (by omega) (by omega) (by simp;omega)
      refine⟨o,?_,?_⟩
      ·simp only[beq_eq_false_iff_ne.2 c1,beq_eq_false_iff_ne.2 c2,cond_false,b1,cond_true];exact h1
      ·rw[h2];simp [zpR,c1,c2]
  ·have hd:s.drop i=[]:=yu (by omega)
   simp only[zhO hl,cond_false]
   rw[hd]
   exact⟨_,rfl,by simp [prU,esc]⟩
theorem zrB{s:LB}(hs:s.length<=20000):xy 200000 s=some (match zgs s with|some q=>(q,true,())|none=>([],false,())):=by
 unfold xy zgs
 obtain⟨o,h1,h2⟩:=zhN 200000 hs 200000 0 [34] (yK _) (by omega) (by simp)
 rw[show((0:Nat):Int)=0 from rfl] at h1
 rw[h1,ya]
 rw[yz] at h2
 have hl:=zkt s
 by_cases ha:s.all zbj=true
 ·rw[if_pos ha] at h2 |-
  cases o with
  |inl=>cases h2
  |inr q=>
   cases h2
   simp only[ze]
   have b1:yP (([34]++esc s:LB).length+1) zG=true:=zaj (by simp;omega)
   have b2:yP 0 ([34]++esc s++[34]:LB).length=true:=by simp [vE]
   have b3:yP ([34]++esc s++[34]:LB).length zG=true:=zaj (by simp;omega)
   rw[b1,b2,b3]
   simp
 ·rw[if_neg ha] at h2 |-
  cases o with
  |inl=>rfl
  |inr q=>cases h2
theorem zkG(N:Nat){s:LB}(hs:s.length<=20000):∀ (m i:Nat) (out:LB),i<=s.length->s.length<m+i->out.length<=2*i+1 ->
  ∃ o,jK N m s out (i:Int)=some o/\prU o=if(s.drop i).all zbj=true then some (out++esc (s.drop i)) else none
 |0,i,out,hi,h,ho=>by omega
 |m+1,i,out,hi,h,ho=>by
  unfold jK zbS
  by_cases hl:i<s.length
  ·have hw:yr .i64 ((i:Int)+1)=((i+1:Nat):Int):=by rw[wri (by omega) (by omega)];omega
   have hn:nth .u8 s (yB (i:Int))=s[i]:=by rw[ym];exact wO (u:=.u8) hl
   have hn':nth .u8 s i=s[i]:=wO (u:=.u8) hl
   have hsl:slice s i (i+1)=[s[i]]:=by
    unfold slice;rw[yY,drop_one hl];rfl
   simp only[zhP hl,cond_true,jh hl,hn,hw,zBn,ya,wR (show i<=i+1 by omega) (show i+1<=s.length by omega),yf,ym,hsl,hn']
   rw[drop_one hl,yH]
   cases ht:zbj s[i] with
   |false=>exact⟨.inl (),rfl,by simp [prU]⟩
   |true=>
    simp only[yb,cond_false,yA]
    have he:esc (s[i]::s.drop (i+1))=zpR s[i]++esc (s.drop (i+1)):=by unfold esc;rw[yX]
    rw[he]
    by_cases c1:s[i]=34
    ·obtain⟨o,h1,h2⟩:=zkG N hs m (i+1) (out++[92]++[s[i]]) (by omega) (by omega) (by simp;omega)
     refine⟨o,?_,?_⟩
     ·simp only[c1,beq_self_eq_true,cond_true] at h1 |-
      simp (disch:=(simp only[yi,yh,yo];omega)) only[zdc,cond_true]
      exact h1
     ·rw[h2];simp [zpR,c1]
    ·by_cases c2:s[i]=92
     ·obtain⟨o,h1,h2⟩:=zkG N hs m (i+1) (out++[92]++[s[i]]) (by omega) (by omega) (by simp;omega)
      refine⟨o,?_,?_⟩
      ·have:((92:UInt8)==34)=false:=rfl
       simp only[c2,this,beq_self_eq_true,cond_true,cond_false] at h1 |-
       simp (disch:=(simp only[yi,yh,yo];omega)) only[zdc,cond_true]
       exact h1
      ·rw[h2];simp [zpR,c2]
     ·obtain⟨o,h1,h2⟩:=zkG N hs m (i+1) (out++[s[i]]) (by omega) (by omega) (by simp;omega)
      refine⟨o,?_,?_⟩
      ·simp only[beq_eq_false_iff_ne.2 c1,beq_eq_false_iff_ne.2 c2,cond_false,cond_true]
       simp (disch:=(simp only[yi,yh,yo];omega)) only[zdc,cond_true]
       exact h1
      ·rw[h2];simp [zpR,c1,c2]
  ·have hd:s.drop i=[]:=yu (by omega)
   simp only[zhO hl,cond_false]
   rw[hd]
   exact⟨_,rfl,by simp [prU,esc]⟩
theorem zt6{s:LB}(hs:s.length<=20000):zaH 200000 s=some (match zgs s with|some q=>(q,true,())|none=>([],false,())):=by
 unfold zaH zgs
 obtain⟨o,h1,h2⟩:=zkG 200000 hs 200000 0 [34] (yK _) (by omega) (by simp)
 rw[show((0:Nat):Int)=0 from rfl] at h1
 rw[h1,ya]
 rw[yz] at h2
 have hl:=zkt s
 by_cases ha:s.all zbj=true
 ·rw[if_pos ha] at h2 |-
  cases o with
  |inl=>cases h2
  |inr q=>
   cases h2
   simp only[ze]
   rw[zdc (by simp;omega)]
   rfl
 ·rw[if_neg ha] at h2 |-
  cases o with
  |inl=>rfl
  |inr q=>cases h2
def zi5(s:LB):LB:=match zgs s with|some q=>q|none=>zlq s
theorem zir{s q:LB}(h:zgs s=some q):q.length<=2*s.length+2:=by
 unfold zgs at h
 split at h
 ·cases h;have:=zkt s;simp;omega
 ·cases h
theorem zlA{s:LB}(hs:s.length<=20000):xR 200000 s=some (zi5 s,()):=by
 unfold xR zi5
 rw[zrB hs,ya]
 cases hq:zgs s with
 |none=>simp only[cond_false,zo8 s (by omega),ya]
 |some q=>
  have:=zir hq
  have b1:yP q.length zG=true:=zaj (by omega)
  simp only[cond_true,b1]
theorem zoK{s:LB}(hs:s.length<=20000):zcg 200000 s=some (zi5 s,()):=by
 unfold zcg zi5
 rw[zt6 hs,ya]
 cases hq:zgs s with
 |none=>simp only[cond_false,zl7 s (by omega),ya]
 |some q=>
  have:=zir hq
  have b1:yP q.length zG=true:=zaj (by omega)
  simp only[cond_true,b1]
theorem zkP(b:LB):(zlq b).length<=b.length+14:=by
 have:=zib b.length
 unfold zlq;simp;omega
theorem zqS(s:LB):(zi5 s).length<=2*s.length+14:=by
 unfold zi5
 cases hq:zgs s with
 |none=>have:=zkP s;simp only;omega
 |some q=>have:=zir hq;simp only;omega
def zfR(s:LB):LB:=if s≠[]/\s.all za0=true then s else zi5 s
theorem zpa(N:Nat){s:LB}(hs:s.length<=20000):∀ (m i:Nat),i<=s.length->s.length<m+i->zZ N m s ((s.length:Nat):Int) (i:Int)=some (if(s.drop i).all za0=true then .inr () else .inl ())
 |0,i,hi,h=>by omega
 |m+1,i,hi,h=>by
  unfold zZ zaq
  by_cases hl:i<s.length
  ·have hw:yr .i64 ((i:Int)+1)=((i+1:Nat):Int):=by rw[wri (by omega) (by omega)];omega
   have hn:nth .u8 s (yB (i:Int))=s[i]:=by rw[ym];exact wO (u:=.u8) hl
   simp only[zhP hl,cond_true,jh hl,hn,hw,zBT,ya]
   rw[drop_one hl,yH]
   cases ht:za0 s[i] with
   |false=>simp
   |true=>simp only[yb,cond_false,yA];exact zpa N hs m (i+1) (by omega) (by omega)
  ·have hd:s.drop i=[]:=yu (by omega)
   simp only[zhO hl,cond_false]
   rw[hd];rfl
theorem zrK{s:LB}(hs:s.length<=20000):jZ 200000 s=some (zfR s,()):=by
 unfold jZ zfR
 have b1:yP s.length zG=true:=zaj (by omega)
 by_cases h0:s=[]
 ·have:(s != ([]:LB))=false:=by simp [h0]
  rw[this,cond_false,b1,cond_true,zlA hs,if_neg (by simp [h0])];rfl
 ·have:(s != ([]:LB))=true:=by simp [h0]
  have hL:=zpa 200000 hs 200000 0 (yK _) (by omega)
  rw[show((0:Nat):Int)=0 from rfl,yz] at hL
  rw[this,cond_true,hL,ya]
  by_cases ha:s.all za0=true
  ·rw[if_pos ha,if_pos ⟨h0,ha⟩]
  ·rw[if_neg ha,if_neg (fun h=>ha h.2)]
   simp only[ze]
   rw[b1,cond_true,zlA hs];rfl
theorem zlW(N:Nat){s:LB}(hs:s.length<=20000):∀ (m i:Nat),i<=s.length->s.length<m+i->jI N m s (i:Int)=some (if(s.drop i).all za0=true then .inr s else .inl ())
 |0,i,hi,h=>by omega
 |m+1,i,hi,h=>by
  unfold jI zbM
  by_cases hl:i<s.length
  ·have hw:yr .i64 ((i:Int)+1)=((i+1:Nat):Int):=by rw[wri (by omega) (by omega)];omega
   have hn:nth .u8 s (yB (i:Int))=s[i]:=by rw[ym];exact wO (u:=.u8) hl
   simp only[zhP hl,cond_true,jh hl,hn,hw,zA0,ya]
   rw[drop_one hl,yH]
   cases ht:za0 s[i] with
   |false=>simp
   |true=>simp only[yb,cond_false,yA];exact zlW N hs m (i+1) (by omega) (by omega)
  ·have hd:s.drop i=[]:=yu (by omega)
   simp only[zhO hl,cond_false]
   rw[hd];rfl
theorem zua{s:LB}(hs:s.length<=20000):kP 200000 s=some (zfR s,()):=by
 unfold kP zcw zfR
 have b1:yP s.length zG=true:=zaj (by omega)
 have hL:=zlW 200000 hs 200000 0 (yK _) (by omega)
 rw[show((0:Nat):Int)=0 from rfl,yz] at hL
 rw[hL,ya]
 by_cases ha:s.all za0=true
 ·rw[if_pos ha]
  simp only[ze,ya]
  by_cases h0:s=[]
  ·subst h0;rw[if_neg (by simp)]
   have hb:zi5 []=zi5 []:=rfl
   simp only[bne_self_eq_false,cond_false]
   rw[b1,cond_true,zoK (by simp)];rfl
  ·have:(s != ([]:LB))=true:=by simp [h0]
   rw[this,cond_true,if_pos ⟨h0,ha⟩]
 ·rw[if_neg ha,if_neg (fun h=>ha h.2)]
  simp only[ze,ya,cond_false]
  rw[b1,cond_true,zoK hs];rfl
theorem zmc(s:LB):(zfR s).length<=2*s.length+14:=by
 unfold zfR;split
 ·omega
 ·exact zqS s
def zaX(n:Int):LB:=if n=0 then[42] else dec n.toNat
def zf7(r:Int×Int):LB:=if r.1=r.2 then zaX r.1 else zaX r.1++([58]++zaX r.2)
def zol(st:List (Int×Int)):LB:=Go.Lib.join (st.map zf7) [44]
def ztt(n:Int):Prop:=0<=n/\n<4294967296
def zm0(st:List (Int×Int)):Prop:=∀ r ∈ st,ztt r.1/\ztt r.2
theorem zaY(n:Int):(zaX n).length<=10:=by
 unfold zaX;split
 ·simp
 ·exact zib _
theorem zpm(r:Int×Int):(zf7 r).length<=21:=by
 unfold zf7
 have:=zaY r.1;have:=zaY r.2
 split
 ·omega
 ·simp;omega
theorem zlN{n:Int}(h:ztt n):k8 200000 n=some (zaX n,()):=by
 unfold k8 zaX
 by_cases h0:n=0
 ·subst h0;rfl
 ·obtain⟨k,rfl⟩:∃ k:Nat,n=(k:Int):=⟨n.toNat,by have:=h.1;omega⟩
  have:(((k:Nat):Int)==0)=false:=by simpa using h0
  rw[this,cond_false,zkq 200000 k (by omega) (by have:=h.2;omega),if_neg h0];rfl
theorem zhM{n:Int}(h:ztt n):kO 200000 n=some (zaX n,()):=by
 unfold kO zaX
 by_cases h0:n=0
 ·subst h0;rfl
 ·obtain⟨k,rfl⟩:∃ k:Nat,n=(k:Int):=⟨n.toNat,by have:=h.1;omega⟩
  have:(((k:Nat):Int)==0)=false:=by simpa using h0
  rw[this,cond_false,zns 200000 k (by omega) (by have:=h.2;omega),if_neg h0];rfl
theorem zon{st:List (Int×Int)}(hs:st.length<=20000)(hu:zm0 st):∀ (m i:Nat) (out:List LB),i<=st.length->st.length<m+i->out.length<=i ->
  qo 200000 m st ((st.length:Nat):Int) (i:Int) out=some (out++(st.drop i).map zf7)
 |0,i,out,hi,h,ho=>by omega
 |m+1,i,out,hi,h,ho=>by
  unfold qo zbe
  by_cases hl:i<st.length
  ·have hw:yr .i64 ((i:Int)+1)=((i+1:Nat):Int):=by rw[wri (by omega) (by omega)];omega
   have hn:nth (.pair (.int .u32) (.int .u32)) st (yB (i:Int))=st[i]:=by rw[ym];exact wO (u:=.pair (.int .u32) (.int .u32)) hl
   obtain⟨u1,u2⟩:=hu st[i] (yM hl)
   have b1:yP (out.length+1) zG=true:=zaj (by omega)
   have f1:=zaY st[i].1;have f2:=zaY st[i].2
   simp only[zhP hl,cond_true,jh hl,hn,hw,zlN u1,zlN u2,ya,b1,beq_self_eq_true,yA,yf]
   rw[drop_one hl,yw]
   by_cases e:st[i].1=st[i].2
   ·have:(st[i].2==st[i].1)=true:=by simp [e]
    rw[this,yb,cond_false,zon hs hu m (i+1) _ (by omega) (by omega) (by simp;omega)]
    simp [zf7,e]
   ·have:(st[i].2==st[i].1)=false:=by simp;exact fun h=>e h.symm
    rw[this,yd,cond_true,zdc (by simp;omega),zdc (by simp;omega)]
    simp only[cond_true]
    rw[zon hs hu m (i+1) _ (by omega) (by omega) (by simp;omega)]
    simp [zf7,e]
  ·have hd:st.drop i=[]:=yu (by omega)
   simp only[zhO hl,cond_false]
   rw[hd];simp
theorem zyY(st:List (Int×Int)):(Go.Lib.joinTail [44] (st.map zf7)).length<=22*st.length:=by
 induction st with
 |nil=>simp [Go.Lib.joinTail]
 |cons r st ih=>
  have:=zpm r
  simp only[Go.Lib.joinTail,yw,List.flatten_cons,yi,yh] at ih |-
  simp only[yh,yo];omega
theorem zla(st:List (Int×Int)):(zol st).length<=22*st.length:=by
 unfold zol
 cases st with
 |nil=>simp [Go.Lib.join_nil]
 |cons r st=>
  have h1:=zpm r;have h2:=zyY st
  rw[yw,Go.Lib.join_cons,yi,yh];omega
theorem zrC{st:List (Int×Int)}(hs:st.length<=2000)(hu:zm0 st):wm 200000 st=some (zol st,()):=by
 unfold wm
 have hL:=zon (by omega) hu 200000 0 [] (yK _) (by omega) (by simp)
 rw[show((0:Nat):Int)=0 from rfl,yz,yj] at hL
 rw[hL,ya]
 have h1:=zla st
 have b1:vi (Go.Lib.join (st.map zf7) [44]).length zcz=true:=by unfold zol at h1;simp [zcz];omega
 have b2:vi (st.map zf7).length 140737488355328=true:=by simp;omega
 rw[b1,b2];rfl
theorem zhV{st:List (Int×Int)}(hs:st.length<=2000)(hu:zm0 st):∀ (m i:Nat) (x:LB),i<=st.length->st.length<m+i->0<i->x.length<=50*i ->
  qj 200000 m st x (i:Int)=some (x++Go.Lib.joinTail [44] ((st.drop i).map zf7))
 |0,i,x,hi,h,h0,ho=>by omega
 |m+1,i,x,hi,h,h0,ho=>by
  unfold qj wX
  by_cases hl:i<st.length
  ·have hw:yr .i64 ((i:Int)+1)=((i+1:Nat):Int):=by rw[wri (by omega) (by omega)];omega
   have hn:nth (.pair (.int .u32) (.int .u32)) st (yB (i:Int))=st[i]:=by rw[ym];exact wO (u:=.pair (.int .u32) (.int .u32)) hl
   obtain⟨u1,u2⟩:=hu st[i] (yM hl)
   have f1:=zaY st[i].1;have f2:=zaY st[i].2
   have hp:decide ((0:Int)<(i:Int))=true:=decide_eq_true (by omega)
   simp only[zhP hl,cond_true,jh hl,hn,hw,hp,zhM u1,zhM u2,ya]
   rw[drop_one hl,yw]
   have hj:∀ (y:LB) r,Go.Lib.joinTail [44] (y::r)=[44]++y++Go.Lib.joinTail [44] r:=fun y r=>by simp [Go.Lib.joinTail]
   rw[hj]
   by_cases e:st[i].1=st[i].2
   ·have:(st[i].1 != st[i].2)=false:=by simp [e]
    simp (disch:=(simp only[yi,yh,yo];omega)) only[zdc,cond_true,this,cond_false]
    rw[zhV hs hu m (i+1) _ (by omega) (by omega) (by omega) (by simp;omega)]
    simp [zf7,e]
   ·have:(st[i].1 != st[i].2)=true:=by simp [e]
    simp (disch:=(simp only[yi,yh,yo];omega)) only[zdc,cond_true,this]
    rw[zhV hs hu m (i+1) _ (by omega) (by omega) (by omega) (by simp;omega)]
    simp [zf7,e]
  ·have hd:st.drop i=[]:=yu (by omega)
   simp only[zhO hl,cond_false]
   rw[hd];simp [Go.Lib.joinTail]
theorem zt7{st:List (Int×Int)}(hs:st.length<=2000)(hu:zm0 st):zac 200000 st=some (zol st,()):=by
 unfold zac zol
 cases hst:st with
 |nil=>rfl
 |cons r st'=>
  rw[<- hst]
  have hl:0<st.length:=by rw[hst];simp
  have hg:st[0]=r:=by simp [hst]
  obtain⟨u1,u2⟩:=hu st[0] (yM hl)
  have f1:=zaY st[0].1;have f2:=zaY st[0].2
  have hn:nth (.pair (.int .u32) (.int .u32)) st (yB (0:Int))=st[0]:=wO (u:=.pair (.int .u32) (.int .u32)) hl
  have key:qj 200000 200000 st [] 0=some (Go.Lib.join (st.map zf7) [44]):=by
   rw[show qj 200000 200000 st [] 0=wX 200000 st [] 0 (qj 200000 199999) (fun v0=>some v0) from rfl]
   unfold wX
   have hw:yr .i64 ((0:Int)+1)=((0+1:Nat):Int):=by decide
   have hp:decide ((0:Int)<0)=false:=by decide
   have hlt:decide ((0:Int)<((st.length:Nat):Int))=true:=decide_eq_true (by omega)
   have hin:inb (0:Int) st.length=true:=jh (i:=0) hl
   simp only[hlt,cond_true,hin,hn,hw,hp,zhM u1,zhM u2,ya,cond_false,yj]
   have hjoin:Go.Lib.join (st.map zf7) [44]=zf7 r++Go.Lib.joinTail [44] ((st.drop (0+1)).map zf7):=by rw[hst,yw,Go.Lib.join_cons];rfl
   rw[hjoin,<- hg]
   by_cases e:st[0].1=st[0].2
   ·have:(st[0].1 != st[0].2)=false:=by simp [e]
    simp (disch:=(simp only[yi,yh,yo];omega)) only[zdc,cond_true,this,cond_false]
    rw[zhV hs hu 199999 (0+1) _ (by omega) (by omega) (by omega) (by omega)]
    simp [zf7,e]
   ·have:(st[0].1 != st[0].2)=true:=by simp [e]
    simp (disch:=(simp only[yi,yh,yo];omega)) only[zdc,cond_true,this]
    rw[zhV hs hu 199999 (0+1) _ (by omega) (by omega) (by omega) (by simp;omega)]
    simp [zf7,e]
  rw[key];rfl
def zy9:Option (LB×Unit)->Option (LB×Unit)->Bool
 |some (a,_),some (b,_)=>a==b&&vi a.length 70
 |_,_=>false
theorem zn5{a b:Option (LB×Unit)}(h:zy9 a b=true):∃ s:LB,a=some (s,())/\b=some (s,())/\s.length<=70:=by
 unfold zy9 at h
 split at h
 ·simp only[yn,beq_iff_eq] at h
  obtain⟨rfl,h2⟩:=h
  exact⟨_,rfl,rfl,Nat.le_of_ble_eq_true h2⟩
 ·cases h
theorem zrz:((yR 32).all fun n=>zy9 (wi 200000 ((n:Nat):Int)) (zag 200000 ((n:Nat):Int)))=true:=by kernel_rfl
theorem zp0{n:Int}(h1:0<=n)(h2:n<=31):∃ s:LB,wi 200000 n=some (s,())/\zag 200000 n=some (s,())/\s.length<=70:=by
 obtain⟨k,rfl⟩:∃ k:Nat,n=(k:Int):=⟨n.toNat,by omega⟩
 have:=zrz
 rw[yy] at this
 exact zn5 (this k (yI.2 (by omega)))
theorem zrl:((yR 32).all fun n=>zy9 (wU 200000 (yq n)) (xU 200000 ((n:Nat):Int)))=true:=by kernel_rfl
theorem zpT{f:UInt8}(h:f<=31):∃ s:LB,wU 200000 f=some (s,())/\xU 200000 ((f.toNat:Nat):Int)=some (s,())/\s.length<=70:=by
 have:=zrl
 rw[yy] at this
 have:=this f.toNat (yI.2 (by have:f.toNat<=31:=h;omega))
 rw[yQ] at this
 exact zn5 this
theorem zvl:((yR 9).all fun n=>zy9 (qE 200000 ((n:Nat):Int)) (xV 200000 ((n:Nat):Int)))=true:=by kernel_rfl
theorem ztC{n:Int}(h1:0<=n)(h2:n<=8):∃ s:LB,qE 200000 n=some (s,())/\xV 200000 n=some (s,())/\s.length<=70:=by
 obtain⟨k,rfl⟩:∃ k:Nat,n=(k:Int):=⟨n.toNat,by omega⟩
 have:=zvl
 rw[yy] at this
 exact zn5 (this k (yI.2 (by omega)))
def okL(o:Option (LB×Unit)):LB:=match o with
 |some (s,_)=>s
 |none=>[]
def zeg(k:Int):LB:=okL (qE 200000 k)
def zkE(n:Int):LB:=okL (wi 200000 n)
def zij(f:UInt8):LB:=okL (wU 200000 f)
def zrZ(mo:Int):LB:=nth .str ([([70,76,65,71,83]:LB),([43,70,76,65,71,83]:LB),([45,70,76,65,71,83]:LB)]:List LB) (yB mo)
def zjg(mo:Int)(si:Bool):LB:=if si=true then zrZ mo++[46,83,73,76,69,78,84] else zrZ mo
theorem ztE{k:Int}(h1:1<=k)(h2:k<=8):qE 200000 k=some (zeg k,())/\xV 200000 k=some (zeg k,())/\(zeg k).length<=70:=by
 obtain⟨s,a,b,c⟩:=ztC (n:=k) (by omega) h2
 have:zeg k=s:=by unfold zeg okL;rw[a]
 rw[this];exact⟨a,b,c⟩
theorem zry{k:Int}(h1:0<=k)(h2:k<=31):wi 200000 k=some (zkE k,())/\zag 200000 k=some (zkE k,())/\(zkE k).length<=70:=by
 obtain⟨s,a,b,c⟩:=zp0 (n:=k) h1 h2
 have:zkE k=s:=by unfold zkE okL;rw[a]
 rw[this];exact⟨a,b,c⟩
theorem zrk{f:UInt8}(h:f<=31):wU 200000 f=some (zij f,())/\xU 200000 ((f.toNat:Nat):Int)=some (zij f,())/\(zij f).length<=70:=by
 obtain⟨s,a,b,c⟩:=zpT h
 have:zij f=s:=by unfold zij okL;rw[a]
 rw[this];exact⟨a,b,c⟩
theorem zr3{mo:Int}{si:Bool}(h1:0<=mo)(h2:mo<=2):zdP 200000 mo si=some (zjg mo si,())/\(zrZ mo).length<=6/\(zjg mo si).length<=13/\inb mo 3=true:=by
 have:mo=0\/mo=1\/mo=2:=by omega
 rcases this with rfl|rfl|rfl<;>cases si<;>exact⟨rfl,by decide,by decide,rfl⟩
def zkf(k:Int)(m:LB)(st:List (Int×Int))(it mo:Int)(si:Bool)(fl:UInt8)(da:LB):List LB:=
 if k=5 then[zfR m] else if k=6 then(if fl=0 then[zfR m,zlq da] else[zfR m,zij fl,zlq da])
 else if k=7 then[zol st,zkE it] else if k=8 then[zol st,zjg mo si,zij fl] else[]
def zfg(t:LB)(k:Int)(m:LB)(st:List (Int×Int))(it mo:Int)(si:Bool)(fl:UInt8)(da:LB):LB:=Go.Lib.join (t::zeg k::zkf k m st it mo si fl da) [32]
def zls(t:LB):LB×Bool:=
 if(zdI (t++[13,10])).2=0/\(zdI (t++[13,10])).1.getLast?=some (1,t) then(t++[13,10],true) else([],false)
def zzZ(t:LB):Option (LB×Bool×Unit):=
 (cond ((vi (yc t) zcz)&&true) (cond (decide (yc t+yc ([13,10]:LB)<4611686018427387904)) (cond (yP (yc (t++([13,10]:LB))) zG) (yC (qi 200000 (t++([13,10]:LB))) fun y4=>(cond (decide ((0:Int)<y4.2.1)) (some (([]:LB),false,())) (cond ((((yc y4.1):Nat):Int)==(0:Int)) (some (([]:LB),false,())) (cond (inb (yr .i64 ((((yc y4.1):Nat):Int)-(1:Int))) (yc y4.1)) (cond ((nth (.pair (.int .i64) (.sl .u8)) y4.1 (yB (yr .i64 ((((yc y4.1):Nat):Int)-(1:Int))))).1 != (1:Int)) (some (([]:LB),false,())) (cond ((nth (.pair (.int .i64) (.sl .u8)) y4.1 (yB (yr .i64 ((((yc y4.1):Nat):Int)-(1:Int))))).2 != t) (some (([]:LB),false,())) (some ((t++([13,10]:LB)),true,())))) none)))) none) none) none)
theorem zvF(t:LB)(fs:List Frm)(left:Nat)(hl:fs.length<=20000)(x:LB)(hx:x=t)(o:LB):
  (cond (decide ((0:Int)<(left:Int))) (some (([]:LB),false,())) (cond ((((yc fs):Nat):Int)==(0:Int)) (some (([]:LB),false,())) (cond (inb (yr .i64 ((((yc fs):Nat):Int)-(1:Int))) (yc fs)) (cond ((nth (.pair (.int .i64) (.sl .u8)) fs (yB (yr .i64 ((((yc fs):Nat):Int)-(1:Int))))).1 != (1:Int)) (some (([]:LB),false,())) (cond ((nth (.pair (.int .i64) (.sl .u8)) fs (yB (yr .i64 ((((yc fs):Nat):Int)-(1:Int))))).2 != x) (some (([]:LB),false,())) (some (o,true,())))) none)))=some (if left=0/\fs.getLast?=some (1,t) then(o,true,()) else([],false,())):=by
 subst hx
 by_cases h0:left=0
 ·subst h0
  simp only[show decide ((0:Int)<((0:Nat):Int))=false from rfl,cond_false,true_and]
  by_cases hn:fs.length=0
  ·have:fs=[]:=vu.1 hn
   subst this
   rfl
  ·have hw:yr .i64 ((fs.length:Int)-1)=((fs.length-1:Nat):Int):=by rw[wri (by omega) (by omega)];omega
   have he:(((fs.length:Nat):Int)==(0:Int))=false:=beq_eq_false_iff_ne.2 (by omega)
   have hlt:fs.length-1<fs.length:=by omega
   have hnth:nth (.pair (.int .i64) (.sl .u8)) fs (yB ((fs.length-1:Nat):Int))=fs[fs.length-1]:=by rw[ym];exact wO (u:=.pair (.int .i64) (.sl .u8)) hlt
   have hg:fs.getLast?=some fs[fs.length-1]:=by rw[List.getLast?_eq_getElem?];exact vt hlt
   simp only[hw,he,cond_false,jh hlt,cond_true,hnth,hg]
   cases hf:fs[fs.length-1] with
   |mk a b=>
    by_cases ha:a=1
    ·subst ha
     by_cases hb:b=x
     ·subst hb;simp
     ·have:(b != x)=true:=by simp [hb]
      simp [this,hb]
    ·have:(a != 1)=true:=by simp [ha]
     simp [this,ha]
 ·have:decide ((0:Int)<(left:Int))=true:=decide_eq_true (by omega)
  rw[this,if_neg (fun h=>h0 h.1)];rfl
theorem zvg{t:LB}(h:t.length<=19000):zzZ t=some ((zls t).1,(zls t).2,()):=by
 unfold zzZ
 have hb:(t++[13,10]).length<=20000:=by simp;omega
 have c1:vi t.length zcz=true:=by simp [zcz];omega
 have c2:decide (yc t+yc ([13,10]:LB)<4611686018427387904)=true:=decide_eq_true (by simp;omega)
 have c3:yP (t++[13,10]).length zG=true:=zaj (by omega)
 rw[c1,c2,c3,zj2 200000 (by omega) (by omega)]
 simp only[yf,cond_true,ya]
 have:=zgO (t++[13,10])
 rw[zvF t _ _ (by omega) t rfl (t++[13,10])]
 unfold zls
 split<;>rfl
theorem zdA:Go.Lib.joinTail [32] ([]:List LB)=[]:=rfl
theorem zal(y:LB)(r:List LB):Go.Lib.joinTail [32] (y::r)=[32]++y++Go.Lib.joinTail [32] r:=by simp [Go.Lib.joinTail]
def Sml(t m:LB)(st:List (Int×Int))(da:LB):Prop:=t.length<=100/\m.length<=300/\st.length<=60/\da.length<=500
theorem zee{t m:LB}{k:Int}{st:List (Int×Int)}{it mo:Int}{si:Bool}{fl:UInt8}{da:LB}(hs:Sml t m st da)(hv:VP t k m st it mo si fl da):(zfg t k m st it mo si fl da).length<=3000:=by
 obtain⟨s1,s2,s3,s4⟩:=hs
 obtain⟨v1,v2,v3,v4,v5,v6,v7⟩:=hv
 obtain⟨_,_,w1⟩:=ztE v2 v3
 have w2:=zmc m
 have w3:=zkP da
 have w4:=zla st
 obtain⟨_,_,w5⟩:=zrk v6
 unfold zfg zkf
 rcases v7 with⟨rfl,_⟩|⟨rfl,_⟩|⟨rfl,_,_,q1,q2,_⟩|⟨rfl,_,_,_,q1,q2,_⟩|⟨q,_⟩
 ·simp only[if_true,Go.Lib.join_cons,zal,zdA,yi,yh,yo];omega
 ·simp only[if_neg (show ¬ ((6:Int)=5) by decide),if_true]
  split<;>simp only[Go.Lib.join_cons,zal,zdA,yi,yh,yo]<;>omega
 ·obtain⟨_,_,w6⟩:=zry (k:=it) (by omega) q2
  simp only[if_neg (show ¬ ((7:Int)=5) by decide),if_neg (show ¬ ((7:Int)=6) by decide),if_true,Go.Lib.join_cons,zal,zdA,yi,yh,yo];omega
 ·obtain⟨_,_,w6,_⟩:=zr3 (si:=si) q1 q2
  simp only[if_neg (show ¬ ((8:Int)=5) by decide),if_neg (show ¬ ((8:Int)=6) by decide),if_neg (show ¬ ((8:Int)=7) by decide),if_true,Go.Lib.join_cons,zal,zdA,yi,yh,yo];omega
 ·rw[if_neg (by omega),if_neg (by omega),if_neg (by omega),if_neg (by omega)]
  simp only[Go.Lib.join_cons,zal,zdA,yi,yh,yo];omega
theorem zjR{t m:LB}{k:Int}{st:List (Int×Int)}{it mo:Int}{si:Bool}{fl:UInt8}{da:LB}(hs:Sml t m st da)(hu:zm0 st)(hv:VP t k m st it mo si fl da):
  qD 200000 (t,(k,(m,(st,(it,(mo,(si,(fl,da))))))))=some ((zls (zfg t k m st it mo si fl da)).1,(zls (zfg t k m st it mo si fl da)).2,()):=by
 have hlen:=zee hs hv
 rw[<- zvg (by omega)]
 obtain⟨s1,s2,s3,s4⟩:=hs
 obtain⟨b,hb,hbv⟩:=zkb t k m st it mo si fl da (by omega)
 have:=hbv.2 hv
 subst this
 obtain⟨v1,v2,v3,v4,v5,v6,v7⟩:=hv
 obtain⟨w1,_,_⟩:=ztE v2 v3
 obtain⟨w2,_,_⟩:=zrk v6
 have w3:=zrK (s:=m) (by omega)
 have w4:=zo8 da (by omega)
 have w5:=zrC (st:=st) (by omega) hu
 unfold qD zfg zkf
 simp only[hb,ya,yb,cond_false,w1]
 rcases v7 with⟨rfl,_⟩|⟨rfl,_⟩|⟨rfl,_,_,q1,q2,_⟩|⟨rfl,_,_,_,q1,q2,_⟩|⟨q,_⟩
 ·simp only[if_true,beq_self_eq_true,cond_true,w3,ya];rfl
 ·simp only[if_neg (show ¬ ((6:Int)=5) by decide),if_true,show((6:Int)==5)=false from rfl,cond_false,beq_self_eq_true,cond_true,w3,ya]
  by_cases hf:fl=0
  ·have:(fl != 0)=false:=by simp [hf]
   simp only[this,cond_false,if_pos hf,w4,ya];rfl
  ·have:(fl != 0)=true:=by simp [hf]
   simp only[this,cond_true,if_neg hf,w4,w2,ya];rfl
 ·obtain⟨w6,_,_⟩:=zry (k:=it) (by omega) q2
  simp only[if_neg (show ¬ ((7:Int)=5) by decide),if_neg (show ¬ ((7:Int)=6) by decide),if_true,show((7:Int)==5)=false from rfl,show((7:Int)==6)=false from rfl,cond_false,beq_self_eq_true,cond_true,w5,w6,ya];rfl
 ·obtain⟨_,w6,w7,w8⟩:=zr3 (si:=si) q1 q2
  have c:decide (yc (zrZ mo)+yc ([46,83,73,76,69,78,84]:LB)<4611686018427387904)=true:=decide_eq_true (by simp;omega)
  simp only[if_neg (show ¬ ((8:Int)=5) by decide),if_neg (show ¬ ((8:Int)=6) by decide),if_neg (show ¬ ((8:Int)=7) by decide),if_true,show((8:Int)==5)=false from rfl,show((8:Int)==6)=false from rfl,show((8:Int)==7)=false from rfl,cond_false,beq_self_eq_true,cond_true,w8]
  cases si with
  |false=>simp only[cond_false,w5,w2,ya];rfl
  |true=>
   simp only[cond_true]
   show cond (decide (yc (zrZ mo)+yc ([46,83,73,76,69,78,84]:LB)<4611686018427387904)) _ _=_
   simp only[c,cond_true,w5,w2,ya];rfl
 ·have n5:(k==5)=false:=beq_eq_false_iff_ne.2 (by omega)
  have n6:(k==6)=false:=beq_eq_false_iff_ne.2 (by omega)
  have n7:(k==7)=false:=beq_eq_false_iff_ne.2 (by omega)
  have n8:(k==8)=false:=beq_eq_false_iff_ne.2 (by omega)
  rw[if_neg (by omega),if_neg (by omega),if_neg (by omega),if_neg (by omega)]
  simp only[n5,n6,n7,n8,cond_false];rfl
theorem zvh{t m:LB}{k:Int}{st:List (Int×Int)}{it mo:Int}{si:Bool}{fl:UInt8}{da:LB}(hs:Sml t m st da)(hu:zm0 st)(hv:VP t k m st it mo si fl da):
  zcj 200000 (t,(k,(m,(st,(it,(mo,(si,(fl,da))))))))=some (zfg t k m st it mo si fl da,()):=by
 obtain⟨s1,s2,s3,s4⟩:=hs
 obtain⟨v1,v2,v3,v4,v5,v6,v7⟩:=hv
 obtain⟨_,w1,l1⟩:=ztE v2 v3
 obtain⟨_,w2,l2⟩:=zrk v6
 have w3:=zua (s:=m) (by omega)
 have w4:=zl7 da (by omega)
 have w5:=zt7 (st:=st) (by omega) hu
 have l3:=zmc m
 have l4:=zkP da
 have l5:=zla st
 have wf:yr .i64 ((vM fl:Nat):Int)=((vM fl:Nat):Int):=by have:=UInt8.toNat_lt fl;rw[wri (by omega) (by omega)]
 unfold zcj zfg zkf
 simp (disch:=(simp only[yi,yh,yo];omega)) only[zdc,cond_true,w1,ya,wf]
 rcases v7 with⟨rfl,_⟩|⟨rfl,_⟩|⟨rfl,_,_,q1,q2,_⟩|⟨rfl,_,_,_,q1,q2,_⟩|⟨q,_⟩
 ·simp (disch:=(simp only[yi,yh,yo];omega)) only[zdc,znj,cond_true,if_true,beq_self_eq_true,w3,ya]
  simp only[Go.Lib.join_cons,zal,zdA,yE,yv]
 ·simp (disch:=(simp only[yi,yh,yo];omega)) only[zdc,if_neg (show ¬ ((6:Int)=5) by decide),if_true,show((6:Int)==5)=false from rfl,cond_false,beq_self_eq_true,cond_true,w3,ya]
  by_cases hf:fl=0
  ·have:decide ((0:UInt8)<fl)=false:=by subst hf;rfl
   simp (disch:=(simp only[yi,yh,yo];omega)) only[this,zdc,znj,cond_true,cond_false,if_pos hf,w4,ya]
   simp only[Go.Lib.join_cons,zal,zdA,yE,yv]
  ·have:decide ((0:UInt8)<fl)=true:=decide_eq_true (UInt8.pos_iff_ne_zero.2 hf)
   simp (disch:=(simp only[yi,yh,yo];omega)) only[this,zdc,znj,cond_true,if_neg hf,w4,w2,ya]
   simp only[Go.Lib.join_cons,zal,zdA,yE,yv]
 ·obtain⟨_,w6,l6⟩:=zry (k:=it) (by omega) q2
  simp (disch:=(simp only[yi,yh,yo];omega)) only[zdc,znj,if_neg (show ¬ ((7:Int)=5) by decide),if_neg (show ¬ ((7:Int)=6) by decide),if_true,show((7:Int)==5)=false from rfl,show((7:Int)==6)=false from rfl,cond_false,beq_self_eq_true,cond_true,w5,w6,ya]
  simp only[Go.Lib.join_cons,zal,zdA,yE,yv]
 ·obtain⟨w6,_,l6,_⟩:=zr3 (si:=si) q1 q2
  simp (disch:=(simp only[yi,yh,yo];omega)) only[zdc,znj,if_neg (show ¬ ((8:Int)=5) by decide),if_neg (show ¬ ((8:Int)=6) by decide),if_neg (show ¬ ((8:Int)=7) by decide),if_true,show((8:Int)==5)=false from rfl,show((8:Int)==6)=false from rfl,show((8:Int)==7)=false from rfl,cond_false,beq_self_eq_true,cond_true,w5,w6,w2,ya]
  simp only[Go.Lib.join_cons,zal,zdA,yE,yv]
 ·have n5:(k==5)=false:=beq_eq_false_iff_ne.2 (by omega)
  have n6:(k==6)=false:=beq_eq_false_iff_ne.2 (by omega)
  have n7:(k==7)=false:=beq_eq_false_iff_ne.2 (by omega)
  have n8:(k==8)=false:=beq_eq_false_iff_ne.2 (by omega)
  rw[if_neg (by omega),if_neg (by omega),if_neg (by omega),if_neg (by omega)]
  simp (disch:=(simp only[yi,yh,yo];omega)) only[n5,n6,n7,n8,cond_false,znj,cond_true]
  simp only[Go.Lib.join_cons,zal,zdA,yE,yv]
theorem zsy{t m:LB}{k:Int}{st:List (Int×Int)}{it mo:Int}{si:Bool}{fl:UInt8}{da:LB}(hs:Sml t m st da)(hu:zm0 st)(hv:VP t k m st it mo si fl da):
  wY 200000 (t,(k,(m,(st,(it,(mo,(si,(fl,da))))))))=some ((zls (zfg t k m st it mo si fl da)).1,(zls (zfg t k m st it mo si fl da)).2,()):=by
 have hlen:=zee hs hv
 have htx:=zvh hs hu hv
 obtain⟨s1,s2,s3,s4⟩:=hs
 obtain⟨b,hb,hbv⟩:=zm5 t k m st it mo si fl da (by omega) (by omega)
 have:=hbv.2 hv
 subst this
 unfold wY
 simp only[hb,ya,yb,cond_false,htx]
 generalize zfg t k m st it mo si fl da=T at hlen |-
 have hL:(T++[13,10]).length=T.length+2:=by simp
 have c3:yP (T.length+2) zG=true:=zaj (by omega)
 have hw:yr .i64 (((T++[13,10]).length:Int)-2)=((T.length:Nat):Int):=by rw[hL,wri (by omega) (by omega)];omega
 have hb:wo (0:Int) ((T.length:Nat):Int) (T++[13,10]).length=true:=by rw[hL];unfold wo;simp;omega
 have hsl:slice (T++[13,10]) 0 (0+(yB ((T.length:Nat):Int)-0))=T:=by rw[ym];simp [slice]
 rw[c3,zte 200000 (by omega) (by omega) (by omega)]
 simp only[cond_true,ya,hw,hb,hsl,yA]
 have:=zgO (T++[13,10])
 have fe:=zvF T (zdI (T++[13,10])).1 (zdI (T++[13,10])).2 (by omega) T rfl (T++[13,10])
 have:∀ (x y:Bool×Unit),True:=fun _ _=>trivial
 by_cases hi:inb (yr .i64 ((((yc (zdI (T++[13,10])).1):Nat):Int)-(1:Int))) (yc (zdI (T++[13,10])).1)=true
 ·rw[hi] at fe |-
  simp only[cond_true] at fe |-
  rw[fe];unfold zls;split<;>rfl
 ·rw[Bool.not_eq_true] at hi
  rw[hi] at fe |-
  simp only[cond_false] at fe |-
  rw[fe];unfold zls;split<;>rfl
theorem zoT(N:Nat)(a b:LB)(hl:a.length=b.length)(ha:a.length<=100000):∀ (m i:Nat),i<=a.length->a.length<m+i ->
  zR N m a b ((a.length:Nat):Int) (i:Int)=some (if a.drop i=b.drop i then Sum.inr () else Sum.inl ())
 |0,i,h,h'=>by omega
 |m+1,i,h,h'=>by
  unfold zR kj
  by_cases hi:i<a.length
  ·have hj:i<b.length:=by omega
   simp only[zhP hi,cond_true,jh hi,jh hj,ym,wO (u:=.u8) hi,wO (u:=.u8) hj]
   rw[wri (by omega) (by omega),show((i:Int)+1)=((i+1:Nat):Int) by omega,drop_one hi,drop_one hj]
   by_cases e:a[i]=b[i]
   ·rw[show(a[i] != b[i])=false by rw[bne_eq_false_iff_eq];exact e,cond_false,zoT N a b hl ha m (i+1) (by omega) (by omega),e]
    simp only[vQ,true_and]
   ·rw[show(a[i] != b[i])=true by rw[bne_iff_ne];exact e,cond_true,if_neg (fun q=>e (vk q).1)]
  ·rw[zhO hi,yu (by omega),yu (by omega)];rfl
theorem zoU(a b:LB)(ha:a.length<=100000)(hb:b.length<=100000):jl 200000 a b=some (a==b,()):=by
 unfold jl
 by_cases hl:a.length=b.length
 ·rw[show((((yc a):Nat):Int) != (((yc b):Nat):Int))=false by rw[bne_eq_false_iff_eq];omega]
  have:=zoT 200000 a b hl ha 200000 0 (yK _) (by omega)
  rw[yz,yz,show((0:Nat):Int)=(0:Int) from rfl] at this
  rw[this]
  by_cases e:a=b
  ·rw[if_pos e,show(a==b)=true by rw[beq_iff_eq];exact e];rfl
  ·rw[if_neg e,show(a==b)=false by rw[beq_eq_false_iff_ne];exact e];rfl
 ·rw[show((((yc a):Nat):Int) != (((yc b):Nat):Int))=true by rw[bne_iff_ne];omega,show(a==b)=false by rw[beq_eq_false_iff_ne];exact fun e=>hl (by rw[e])]
  rfl
theorem zBV(c:El uS2):∃ f:Bool,xL 200000 c=some (f,())/\(f=true->Sml c.1 c.2.2.1 c.2.2.2.1 c.2.2.2.2.2.2.2.2):=by
 unfold xL Sml
 by_cases h1:((c.1.length:Nat):Int)<=100
 ·by_cases h2:((c.2.2.1.length:Nat):Int)<=300
  ·by_cases h3:((c.2.2.2.1.length:Nat):Int)<=60
   ·rw[decide_eq_true h1,decide_eq_true h2,decide_eq_true h3];exact⟨_,rfl,fun h=>by have:=of_decide_eq_true h;exact⟨by omega,by omega,by omega,by omega⟩⟩
   ·rw[decide_eq_true h1,decide_eq_true h2,decide_eq_false h3];exact⟨false,rfl,fun h=>by cases h⟩
  ·rw[decide_eq_true h1,decide_eq_false h2];exact⟨false,rfl,fun h=>by cases h⟩
 ·rw[decide_eq_false h1];exact⟨false,rfl,fun h=>by cases h⟩
theorem zwi(c:El uS2)(hw:Wf uS2 c):zm0 c.2.2.2.1:=by
 intro r hr
 have h:=hw.2.2.2.1.2 r hr
 have h1:(0:Int)<=r.1/\r.1<=4294967295:=h.1
 have h2:(0:Int)<=r.2/\r.2<=4294967295:=h.2
 exact⟨⟨h1.1,by omega⟩,⟨h2.1,by omega⟩⟩
theorem zlO{b b':LB}{f a' s':Nat}{fr:Frm}(hf:f<=b.length)(h:znD b f=some (fr,b',a',s')):
  (fr=(2,[])/\b'=b/\f<a'+s')\/(fr.1≠2/\b'.length+2<=b.length/\(fr.1=1->fr.2.length+2<=b.length)):=by
 unfold znD at h
 cases he:zdU (b.drop f) with
 |none=>rw[he] at h;cases h
 |some e=>
  have hle:=zic he
  rw[he] at h
  simp only at h
  split at h
  ·cases h
   refine .inr ⟨by simp,by simp;omega,fun h=>by cases h⟩
  ·cases hn:znd (slice b f (f+e)) with
   |none=>
    rw[hn] at h
    cases h
    refine .inr ⟨by simp,by simp;omega,fun h=>by simp;omega⟩
   |some n=>
    rw[hn] at h
    simp only at h
    split at h
    ·cases h
     refine .inr ⟨by simp,by simp;omega,fun h=>by cases h⟩
    ·cases h
     exact .inl ⟨rfl,rfl,by omega⟩
theorem zsg:∀ (m:Nat) (b:LB) (f:Nat),b.length-f<m->∀ fr ∈ (zaW b f).1,fr.1=1->fr.2.length+2<=b.length
 |0,b,f,h=>by omega
 |m+1,b,f,h=>by
  by_cases hf:f<=b.length
  ·rw[zay hf]
   cases hx:znD b f with
   |none=>exact fun fr h=>by cases h
   |some w=>
    obtain⟨fr,b',a',s'⟩:=w
    obtain⟨h1,h2,h3,h4,h5,_⟩:=zdV hx
    intro x hm hk
    rcases yJ.1 hm with rfl|hm
    ·rcases zlO hf hx with⟨k,_⟩|⟨_,_,k⟩
     ·rw[k] at hk;cases hk
     ·exact k hk
    ·exact vj (zsg m b' (a'+s') (by omega) x hm hk) h1
  ·rw[zdT (by omega)];exact fun fr h=>by cases h
theorem zjH(t:LB):∀ (m:Nat) (b:LB) (f:Nat),b.length-f<m->b.length<=t.length+2->(zaW b f).1.getLast?=some (1,t)->∃ n,(zaW b f).1=yD n (2,[])++[(1,t)]
 |0,b,f,h,hb,hl=>by omega
 |m+1,b,f,h,hb,hl=>by
  by_cases hf:f<=b.length
  ·rw[zay hf] at hl |-
   cases hx:znD b f with
   |none=>rw[hx] at hl;cases hl
   |some w=>
    obtain⟨fr,b',a',s'⟩:=w
    obtain⟨h1,h2,h3,h4,h5,_⟩:=zdV hx
    rw[hx] at hl
    simp only at hl |-
    rcases zlO hf hx with⟨rfl,rfl,k⟩|⟨k1,k2,k3⟩
    ·cases hr:(zaW b' (a'+s')).1 with
     |nil=>rw[hr] at hl;cases hl
     |cons y r=>
      rw[hr] at hl
      rw[vv,<- hr] at hl
      obtain⟨n,hn⟩:=zjH t m b' (a'+s') (by omega) hb hl
      rw[<- hr,hn]
      exact⟨n+1,by rw[vD];rfl⟩
    ·cases hr:(zaW b' (a'+s')).1 with
     |nil=>rw[hr] at hl;cases hl;exact⟨0,rfl⟩
     |cons y r=>
      rw[hr] at hl
      rw[vv,<- hr] at hl
      have:=zsg (b'.length+1) b' (a'+s') (by omega) _ (List.mem_of_getLast? hl) rfl
      simp only at this
      omega
  ·rw[zdT (by omega)] at hl;cases hl
theorem zmw{t:LB}(h:(zls t).2=true):(zls t).1=t++[13,10]/\(zdI (t++[13,10])).2=0/\∃ n,(zdI (t++[13,10])).1=yD n (2,[])++[(1,t)]:=by
 unfold zls at h |-
 split at h
 ·rename_i hc
  rw[if_pos hc]
  refine⟨rfl,hc.1,?_⟩
  rw[zec] at hc |-
  exact zjH t _ _ 0 (vH _) (by simp) hc.2
 ·cases h
def er(t:Tok):Tok:=(t.1,(t.2.1,0))
theorem zqL{α:Type}(pre w:List α)(j:Nat):(pre++w)[pre.length+j]?=w[j]?:=by
 rw[List.getElem?_append_right (by omega)];congr 1;omega
def Ch(w:LB)(l:List Tok):Prop:=∀ (pre:LB) (f:Nat),w.length<f->∃ L x,zdt (pre++w) f pre.length=.inl (L++[x])/\L.map er=l
theorem zjt:Ch [] []:=by
 intro pre f hf
 cases f with
 |zero=>omega
 |succ f=>
  refine⟨[],(0,([],(pre.length:Int))),?_,rfl⟩
  unfold zdt
  have:kG (pre++[]) pre.length=some ((0,[],(pre.length:Int)),pre.length):=by
   unfold kG
   rw[List.getElem?_eq_none (by simp)]
  rw[this]
  simp
theorem zgp{p w d:LB}{k:Int}{l:List Tok}(hp:0<p.length)(hn:∀ pre:LB,kG (pre++(p++w)) pre.length=some ((k,d,(pre.length:Int)),pre.length+p.length))(h:Ch w l):Ch (p++w) ((k,(d,0))::l):=by
 intro pre f hf
 cases f with
 |zero=>omega
 |succ f=>
  rw[yi] at hf
  obtain⟨L,x,h1,h2⟩:=h (pre++p) f (by omega)
  refine⟨(k,d,(pre.length:Int))::L,x,?_,by rw[yw,h2];rfl⟩
  unfold zdt
  rw[hn]
  simp only
  rw[if_neg (by simp only[yi];omega)]
  rw[yE,yi] at h1
  rw[h1]
  rfl
theorem zhs{w:LB}{l:List Tok}(h:Ch w l):Ch (32::w) ((1,([],0))::l):=by
 refine zgp (p:=[32]) (by simp) (fun pre=>?_) h
 unfold kG
 rw[show(pre++([32]++w))[pre.length]?=some 32 by simp]
 rfl
theorem zqZ{w:LB}{l:List Tok}(h:Ch w l):Ch (40::w) ((2,([],0))::l):=by
 refine zgp (p:=[40]) (by simp) (fun pre=>?_) h
 unfold kG
 rw[show(pre++([40]++w))[pre.length]?=some 40 by simp]
 rfl
theorem zoM{w:LB}{l:List Tok}(h:Ch w l):Ch (41::w) ((3,([],0))::l):=by
 refine zgp (p:=[41]) (by simp) (fun pre=>?_) h
 unfold kG
 rw[show(pre++([41]++w))[pre.length]?=some 41 by simp]
 rfl
theorem zoa{p:UInt8->Bool}:∀ {s w:LB},s.all p=true->(∀ c,w.head?=some c->p c=false)->run p (s++w)=s.length
 | [],[],_,_=>rfl
 | [],c::w,_,h=>by
  show run p (c::w)=0
  unfold run;rw[h c rfl];rfl
 |c::s,w,hs,h=>by
  rw[yH,yn] at hs
  show run p (c::(s++w))=s.length+1
  unfold run
  rw[if_pos hs.1,zoa hs.2 h]
def zz3(f:UInt8->Bool):Bool:=(yR 256).all fun n=>f (yq n)
theorem zlm{f:UInt8->Bool}(h:zz3 f=true)(c:UInt8):f c=true:=by
 unfold zz3 at h
 rw[yy] at h
 have:=h c.toNat (yI.2 c.toNat_lt)
 rwa [yQ] at this
theorem zqA(c:UInt8)(h:qA c=true):c≠32/\c≠40/\c≠41/\c≠34/\c≠123:=by
 have:=zlm (f:=fun c=>!qA c||(c != 32&&c != 40&&c != 41&&c != 34&&c != 123)) (by kernel_rfl) c
 rw[h] at this
 simpa [and_assoc] using this
theorem zeT{p w:LB}{l:List Tok}(h0:p≠[])(hp:p.all qA=true)(hw:∀ c,w.head?=some c->qA c=false)(h:Ch w l):Ch (p++w) ((4,(p,0))::l):=by
 have hl:0<p.length:=by cases p with
  |nil=>exact absurd rfl h0
  |cons=>simp
 refine zgp hl (fun pre=>?_) h
 obtain⟨c,r,rfl⟩:∃ c r,p=c::r:=by cases p with
  |nil=>exact absurd rfl h0
  |cons c r=>exact⟨c,r,rfl⟩
 have hr:=zoa (w:=w) hp hw
 have hc:qA c=true:=by rw[yH,yn] at hp;exact hp.1
 obtain⟨c1,c2,c3,c4,c5⟩:=zqA c hc
 have hd:(pre++(c::r++w)).drop pre.length=c::r++w:=by simp
 have hs:slice (pre++(c::r++w)) pre.length (pre.length+(c::r).length)=c::r:=by
  unfold slice;rw[hd];simp
 unfold kG
 rw[show(pre++(c::r++w))[pre.length]?=some c by simp]
 simp only[if_neg c1,if_neg c2,if_neg c3,if_neg c4,if_neg c5]
 rw[hd,hr,if_pos hl,hs]
theorem zv9:∀ {s:LB} (w:LB),s.all zbj=true->sq (esc s++34::w)=some (s,(esc s).length+1)
 | [],w,h=>by unfold sq;rfl
 |c::s,w,h=>by
  rw[yH,yn] at h
  have ih:=zv9 w h.2
  have he:esc (c::s)=zpR c++esc s:=by unfold esc;rw[yX]
  rw[he]
  unfold zpR
  by_cases hc:c=34\/c=92
  ·rw[if_pos hc]
   show sq (92::c::(esc s++34::w))=_
   unfold sq
   rw[if_neg (by decide),if_pos rfl]
   simp only[if_pos hc,ih]
   simp only[yi,yh,yo]
   congr 2;omega
  ·rw[if_neg hc]
   show sq (c::(esc s++34::w))=_
   unfold sq
   rw[if_neg (fun h=>hc (.inl h)),if_neg (fun h=>hc (.inr h)),if_pos h.1,ih]
   simp only[yi,yh,yo]
   congr 2;omega
theorem zyL{s q w:LB}{l:List Tok}(hq:zgs s=some q)(h:Ch w l):Ch (q++w) ((5,(s,0))::l):=by
 unfold zgs at hq
 split at hq
 ·rename_i hs
  cases hq
  refine zgp (by simp) (fun pre=>?_) h
  have hd:(pre++([34]++esc s++[34]++w)).drop (pre.length+1)=esc s++34::w:=by
   rw[show pre++([34]++esc s++[34]++w)=(pre++[34])++(esc s++34::w) by simp,show pre.length+1=(pre++[34]).length by simp,yV]
  unfold kG
  rw[show(pre++([34]++esc s++[34]++w))[pre.length]?=some 34 by simp]
  simp only[if_neg (show ¬ ((34:UInt8)=32) by decide),if_neg (show ¬ ((34:UInt8)=40) by decide),if_neg (show ¬ ((34:UInt8)=41) by decide),if_true]
  rw[hd,zv9 w hs]
  simp only[yi,yh,yo]
  congr 2;omega
 ·cases hq
theorem zf3{c:UInt8}:∀ {p w:LB},(∀ x ∈ p,x≠c)->posOf c (p++c::w)=some p.length
 | [],w,h=>by show posOf c (c::w)=_;unfold posOf;simp
 |x::p,w,h=>by
  show posOf c (x::(p++c::w))=_
  unfold posOf
  have:(x==c)=false:=beq_eq_false_iff_ne.2 (h x (yk ..))
  rw[this,zf3 fun y hy=>h y (yg _ hy)]
  rfl
theorem ziB{c:UInt8}:∀ {p:LB},(∀ x ∈ p,x≠c)->posOf c p=none
 | [],h=>rfl
 |x::p,h=>by
  unfold posOf
  have:(x==c)=false:=beq_eq_false_iff_ne.2 (h x (yk ..))
  rw[this,ziB fun y hy=>h y (yg _ hy)]
  rfl
theorem zm2(acc:Nat)(c:UInt8)(r:LB):zhG acc (c::r)=if 48<=c.toNat/\c.toNat<=57 then zhG (acc*10+(c.toNat-48)) r else none:=rfl
theorem zpD:∀ (l r:LB) (acc:Nat),zhG acc (l++r)=(zhG acc l).bind fun a=>zhG a r
 | [],r,acc=>rfl
 |c::l,r,acc=>by
  rw[ye,zm2,zm2]
  split
  ·exact zpD l r _
  ·rfl
theorem zsc{n:Nat}(h:n<10):(yq (48+n)).toNat=48+n:=by rw[UInt8.toNat_ofNat'];omega
theorem zpE{n:Nat}(h:n<10)(acc:Nat):zhG acc [yq (48+n)]=some (acc*10+n):=by
 unfold zhG zhG
 rw[zsc h,if_pos ⟨by omega,by omega⟩]
 congr 2;omega
theorem zm3:∀ (f n:Nat),n<10 ^ f->0<f->zhG 0 (jg f n)=some n
 |0,n,h,h0=>by omega
 |f+1,n,h,h0=>by
  unfold jg
  by_cases h1:n<10
  ·rw[if_pos h1,zpE h1,Nat.zero_mul,vz]
  ·rw[if_neg h1,zpD]
   have hp:10 ^ (f+1)=10*10 ^ f:=by rw[Nat.pow_succ];omega
   have hf:0<f:=by
    cases f with
    |zero=>exact absurd h h1
    |succ=>omega
   rw[zm3 f (n/10) (by omega) hf,ya,zpE (Nat.mod_lt _ (by decide))]
   congr 1;omega
theorem zhS{n:Nat}(h:n<=4294967295):zeD (dec n)=some n:=by
 unfold zeD
 rw[show zhG 0 (dec n)=some n from zm3 10 n (by omega) (by omega)]
 exact if_pos ⟨h,rfl⟩
theorem znr{n:Nat}(h:n<=4294967295):∀ c ∈ dec n,dg c:=zsb (zhS h)
theorem zqY{s w:LB}{l:List Tok}(hs:s.length<=65536)(h:Ch w l):Ch (zlq s++w) ((6,(s,0))::l):=by
 refine zgp (by unfold zlq;simp) (fun pre=>?_) h
 have hd:=znr (n:=s.length) (by omega)
 have h125:∀ x ∈ dec s.length,x≠125:=fun x hx e=>by have:=hd x hx;subst e;exact absurd this.2 (by decide)
 have hL:(zlq s).length=(dec s.length).length+4+s.length:=by unfold zlq;simp;omega
 have hv:=zhS (n:=s.length) (by omega)
 have hb:zlq s=[123]++dec s.length++[125,13,10]++s:=rfl
 rw[hL,hb]
 generalize dec s.length=D at h125 hv |-
 have e1:pre++([123]++D++[125,13,10]++s++w)=(pre++[123])++(D++125::(13::10::(s++w))):=by simp
 have e2:pre++([123]++D++[125,13,10]++s++w)=(pre++[123]++D++[125])++(13::10::(s++w)):=by simp
 have e3:pre++([123]++D++[125,13,10]++s++w)=(pre++[123]++D++[125,13,10])++(s++w):=by simp
 have g0:(pre++([123]++D++[125,13,10]++s++w))[pre.length]?=some 123:=by simp
 have g1:(pre++([123]++D++[125,13,10]++s++w)).drop (pre.length+1)=D++125::(13::10::(s++w)):=by
  rw[e1,show pre.length+1=(pre++[123]).length by simp,yV]
 have g2:slice (pre++([123]++D++[125,13,10]++s++w)) (pre.length+1) (pre.length+1+D.length)=D:=by
  unfold slice;rw[g1];simp
 have g3:(pre++([123]++D++[125,13,10]++s++w))[pre.length+1+D.length+1]?=some 13:=by
  rw[e2,show pre.length+1+D.length+1=(pre++[123]++D++[125]).length+0 by simp;omega,zqL];rfl
 have g4:(pre++([123]++D++[125,13,10]++s++w))[pre.length+1+D.length+2]?=some 10:=by
  rw[e2,show pre.length+1+D.length+2=(pre++[123]++D++[125]).length+1 by simp;omega,zqL];rfl
 have g5:(pre++([123]++D++[125,13,10]++s++w)).drop (pre.length+1+D.length+3)=s++w:=by
  rw[e3,show pre.length+1+D.length+3=(pre++[123]++D++[125,13,10]).length by simp;omega,yV]
 have g6:slice (pre++([123]++D++[125,13,10]++s++w)) (pre.length+1+D.length+3) (pre.length+1+D.length+3+s.length)=s:=by
  unfold slice;rw[g5];simp
 have g7:pre.length+1+D.length+3+s.length<=(pre++([123]++D++[125,13,10]++s++w)).length:=by simp;omega
 unfold kG
 rw[g0]
 simp only[if_neg (show ¬ ((123:UInt8)=32) by decide),if_neg (show ¬ ((123:UInt8)=40) by decide),if_neg (show ¬ ((123:UInt8)=41) by decide),if_neg (show ¬ ((123:UInt8)=34) by decide),if_true]
 rw[g1,zf3 h125]
 simp only[g2,hv,g3,g4,g6]
 rw[if_pos ⟨hs,trivial,trivial,g7⟩]
 congr 2;omega
def zbk:List LB->List Tok
 | []=>[]
 | [a]=>[(4,(a,0))]
 |a::b::r=>(4,(a,0))::(1,([],0))::zbk (b::r)
theorem zkk{w:LB}{l:List Tok}(hw:∀ c,w.head?=some c->qA c=false)(h:Ch w l):∀ ws:List LB,(∀ a ∈ ws,a≠[]/\a.all qA=true)->Ch (Go.Lib.join ws [32]++w) (zbk ws++l)
 | [],_=>h
 | [a],ha=>by
  rw[Go.Lib.join_cons,zdA,yv]
  exact zeT (ha a (yk ..)).1 (ha a (yk ..)).2 hw h
 |a::b::r,ha=>by
  have ih:=zkk hw h (b::r) fun x hx=>ha x (yg _ hx)
  rw[Go.Lib.join_cons,zal]
  rw[Go.Lib.join_cons] at ih
  have e:a++([32]++b++Go.Lib.joinTail [32] r)++w=a++(32::(b++Go.Lib.joinTail [32] r++w)):=by simp
  rw[e]
  exact zeT (ha a (yk ..)).1 (ha a (yk ..)).2 (fun c hc=>by cases hc;rfl) (zhs ih)
def er2(p:List Tok×List Tok):List Tok×List Tok:=(p.1.map er,p.2.map er)
theorem zq8:∀ l:List Tok,zgj (l.map er)=(zgj l).map er2
 | []=>rfl
 |t::r=>by
  rw[yw]
  unfold zgj
  show(if t.1=3 then _ else _)=_
  split
  ·rfl
  ·rw[zq8 r];cases zgj r<;>rfl
theorem zlo{A:Type}(f:LB->Option A)(op:A->A->A):∀ (l:List Tok) (a:A),zO f op a (l.map er)=zO f op a l
 | [],a=>rfl
 | [t],a=>rfl
 |t::s::r,a=>by
  rw[yw,yw]
  unfold zO
  show(if t.1=4 then(match f t.2.1 with|none=>none|some x=>if s.1=1 then _ else none) else none)=_
  cases f t.2.1 with
  |none=>rfl
  |some x=>simp only;rw[zlo f op r]
theorem znh(items:Bool)(a:Tok)(r:List Tok):brS items (a::r)=if a.1=2 then(match zgj r with
  |none=>none
  |some ([],q)=>cond items none (some (0,q))
  |some (t::p,q)=>(zO (fW items) orI 0 (t::p)).map fun x=>(x,q)) else none:=rfl
theorem zwB(items:Bool)(l:List Tok):brS items (l.map er)=(brS items l).map fun p=>(p.1,p.2.map er):=by
 cases l with
 |nil=>rfl
 |cons a r=>
  rw[yw,znh,znh]
  show(if a.1=2 then _ else _)=_
  by_cases h2:a.1=2
  ·rw[if_pos h2,if_pos h2,zq8]
   cases zgj r with
   |none=>rfl
   |some p=>
    obtain⟨p,q⟩:=p
    cases p with
    |nil=>cases items<;>rfl
    |cons t p=>
     show(zO (fW items) orI 0 ((t::p).map er)).map _=_
     rw[zlo]
     simp only
     cases zO (fW items) orI 0 (t::p)<;>rfl
  ·rw[if_neg h2,if_neg h2];rfl
theorem zvR(o:Option (Int×List Tok)):ztI (o.map fun p=>(p.1,p.2.map er))=ztI o:=by
 cases o with
 |none=>rfl
 |some p=>
  obtain⟨x,q⟩:=p
  cases q<;>rfl
theorem znf(a b:Tok)(r:List Tok):zne (a::b::r)=match brS false (a::b::r) with
  |some (x,[s,d])=>if s.1=1/\d.1=6 then some (zdC x,d.2.1) else none
  |_=>none:=rfl
theorem zrx(a b:Tok)(r:List Tok):itS (a::b::r)=ztI (brS true (a::b::r)):=rfl
theorem zyI(l:List Tok):zne (l.map er)=zne l:=by
 match l with
 | []=>rfl
 | [d]=>rfl
 |a::b::r=>
  have h:=zwB false (a::b::r)
  rw[yw,yw] at h |-
  rw[znf,znf,h]
  cases brS false (a::b::r) with
  |none=>rfl
  |some p=>
   obtain⟨x,q⟩:=p
   match q with
   | []=>rfl
   | [_]=>rfl
   | [_,_]=>rfl
   |_::_::_::_=>rfl
theorem zA8(l:List Tok):itS (l.map er)=itS l:=by
 match l with
 | []=>rfl
 | [d]=>rfl
 |a::b::r=>
  have h:=zwB true (a::b::r)
  rw[yw,yw] at h |-
  rw[zrx,zrx,h,zvR]
theorem zA3(l:List Tok):zrg (l.map er)=zrg l:=by
 unfold zrg
 rw[zwB,zvR,zlo]
theorem zhF{A:Type}(k:Int)(l:List Tok)(f g:Tok->List Tok->Option A)(h:∀ t r,f (er t) (r.map er)=g t r):tk k (l.map er) f=tk k l g:=by
 cases l with
 |nil=>rfl
 |cons t r=>
  rw[yw]
  unfold tk
  show(if t.1=k then f (er t) (r.map er) else none)=_
  rw[h]
theorem zwg{A:Type}(l:List Tok)(f g:Tok->List Tok->Option A)(h:∀ t r,f (er t) (r.map er)=g t r):tkM (l.map er) f=tkM l g:=by
 cases l with
 |nil=>rfl
 |cons t r=>
  rw[yw]
  unfold tkM
  show(if zpM t=true then f (er t) (r.map er) else none)=_
  rw[h]
theorem zwf{A:Type}(l:List Tok)(x:A):tkE (l.map er) x=tkE l x:=by cases l<;>rfl
theorem zwA(tag:LB)(l:List Tok):zkh tag (l.map er)=zkh tag l:=by
 unfold zkh
 refine zhF _ _ _ _ fun w r=>?_
 show(if zbw w.2.1=0 then _ else _)=_
 split
 ·rfl
 ·show(if zbw w.2.1<=4 then _ else _)=_
  split
  ·exact zwf _ _
  ·show(if zbw w.2.1=5 then _ else _)=_
   split
   ·unfold SB5
    exact zhF _ _ _ _ fun _ r=>zwg _ _ _ fun m r=>zwf _ _
   ·show(if zbw w.2.1=6 then _ else _)=_
    split
    ·unfold SB6
     refine zhF _ _ _ _ fun _ r=>zwg _ _ _ fun m r=>zhF _ _ _ _ fun _ r=>?_
     rw[zyI];rfl
    ·show(if zbw w.2.1=7 then _ else _)=_
     split
     ·unfold SB7
      refine zhF _ _ _ _ fun _ r=>zhF _ _ _ _ fun t r=>?_
      show(zuO t.2.1).bind _=_
      congr 1;funext st
      refine zhF _ _ _ _ fun _ r=>?_
      rw[zA8];rfl
     ·unfold SB8
      refine zhF _ _ _ _ fun _ r=>zhF _ _ _ _ fun t r=>?_
      show(zuO t.2.1).bind _=_
      congr 1;funext st
      refine zhF _ _ _ _ fun _ r=>zhF _ _ _ _ fun w r=>?_
      show(zr0 w.2.1).bind _=_
      congr 1;funext mb
      refine zhF _ _ _ _ fun _ r=>?_
      rw[zA3];rfl
def zii(f:UInt8):List LB:=
 [([92,65,110,115,119,101,114,101,100],1),([92,70,108,97,103,103,101,100],2),([92,68,101,108,101,116,101,100],4),([92,83,101,101,110],8),([92,68,114,97,102,116],16)].filterMap fun p:LB×UInt8=>cond ((f &&& p.2) != 0) (some p.1) none
def zi9(n:Nat):List LB:=
 [([70,76,65,71,83],1),([85,73,68],2),([82,70,67,56,50,50,46,83,73,90,69],4),([66,79,68,89,46,80,69,69,75,91,93],8),([66,79,68,89,91,93],16)].filterMap fun p:LB×Nat=>cond (Nat.land n p.2 != 0) (some p.1) none
def zAj(l:List LB):Bool:=l.all fun a=>!List.isEmpty a&&a.all qA
theorem zse{l:List LB}(h:zAj l=true):∀ a ∈ l,a≠[]/\a.all qA=true:=by
 unfold zAj at h
 rw[yy] at h
 intro a ha
 have:=h a ha
 rw[yn] at this
 refine⟨fun e=>?_,this.2⟩
 subst e;cases this.1
def isI(o:Option Int)(n:Nat):Bool:=match o with
 |some x=>x==(n:Int)
 |none=>false
def ztZ(n:Nat):Bool:=zij (yq n)==[40]++Go.Lib.join (zii (yq n)) [32]++[41]&&(zAj (zii (yq n))&&(n==0&&(zii (yq n)).isEmpty||n != 0&&!(zii (yq n)).isEmpty&&isI (zO (fW false) orI 0 (zbk (zii (yq n)))) n))
def zt1(n:Nat):Bool:=zkE (n:Int)==[40]++Go.Lib.join (zi9 n) [32]++[41]&&(zAj (zi9 n)&&(n==0||!(zi9 n).isEmpty&&isI (zO (fW true) orI 0 (zbk (zi9 n))) n))
theorem zyR:((yR 32).all ztZ)=true:=by kernel_rfl
theorem zyX:((yR 32).all zt1)=true:=by kernel_rfl
def zz6(n:Nat):Bool:=n==0||(!(zeg (n:Int)).isEmpty&&(zeg (n:Int)).all qA&&zbw (zeg (n:Int))==(n:Int))
theorem zz7:((yR 9).all zz6)=true:=by kernel_rfl
def isM(o:Option (Int×Bool))(n:Nat)(b:Bool):Bool:=match o with
 |some (x,c)=>x==(n:Int)&&c==b
 |none=>false
def zuc(n:Nat)(b:Bool):Bool:=!(zjg (n:Int) b).isEmpty&&(zjg (n:Int) b).all qA&&isM (zr0 (zjg (n:Int) b)) n b
theorem zy4:((yR 3).all fun n=>zuc n true&&zuc n false)=true:=by kernel_rfl
theorem ziY:∀ ws:List LB,∀ t ∈ zbk ws,t.1≠3
 | [],t,h=>by cases h
 | [a],t,h=>by rw[yU.1 h];simp
 |a::b::r,t,h=>by
  rcases yJ.1 h with rfl|h
  ·simp
  ·rcases yJ.1 h with rfl|h
   ·simp
   ·exact ziY (b::r) t h
theorem ztF{ws:List LB}(h:ws.isEmpty=false):∃ t r,zbk ws=t::r:=by
 match ws with
 | []=>cases h
 | [a]=>exact⟨_,_,rfl⟩
 |a::b::r=>exact⟨_,_,rfl⟩
theorem zvH{o:Option Int}{n:Nat}(h:isI o n=true):o=some (n:Int):=by
 unfold isI at h
 split at h
 ·rw[eq_of_beq h]
 ·cases h
theorem zoL{items:Bool}{ws:List LB}{x:Int}(h0:ws.isEmpty=false)(hx:zO (fW items) orI 0 (zbk ws)=some x)(l:List Tok):brS items ((2,([],0))::(zbk ws++(3,([],0))::l))=some (x,l):=by
 rw[znh,if_pos rfl,zq7 (z:=(3,([],0))) rfl (ziY ws)]
 obtain⟨t,r,hr⟩:=ztF h0
 rw[hr] at hx |-
 simp only
 rw[hx];rfl
theorem zoW{f:UInt8}(h:f<=31):ztZ f.toNat=true:=by
 have:=zyR
 rw[yy] at this
 exact this _ (yI.2 (by have:f.toNat<=31:=h;omega))
theorem zoN{f:UInt8}(h:f<=31){w:LB}{l:List Tok}(hc:Ch w l):Ch (zij f++w) ((2,([],0))::(zbk (zii f)++(3,([],0))::l)):=by
 have hr:=zoW h
 unfold ztZ at hr
 rw[yQ,yn,yn] at hr
 rw[eq_of_beq hr.1]
 have e:[40]++Go.Lib.join (zii f) [32]++[41]++w=40::(Go.Lib.join (zii f) [32]++41::w):=by simp
 rw[e]
 exact zqZ (zkk (fun c hc=>by cases hc;rfl) (zoM hc) _ (zse hr.2.1))
theorem zqX{f:UInt8}(h:f<=31)(l:List Tok):brS false ((2,([],0))::(zbk (zii f)++(3,([],0))::l))=some (((f.toNat:Nat):Int),l):=by
 have hr:=zoW h
 unfold ztZ at hr
 rw[yQ,yn,yn,vp] at hr
 rcases hr.2.2 with h|h
 ·rw[yn] at h
  rw[eq_of_beq h.1,List.isEmpty_iff.1 h.2];rfl
 ·rw[yn,yn] at h
  exact zoL (by simpa using h.1.2) (zvH h.2) l
theorem zo4{n:Nat}(h:n<=31):zt1 n=true:=by
 have:=zyX
 rw[yy] at this
 exact this _ (yI.2 (by omega))
theorem ztW{n:Nat}(h:n<=31){w:LB}{l:List Tok}(hc:Ch w l):Ch (zkE (n:Int)++w) ((2,([],0))::(zbk (zi9 n)++(3,([],0))::l)):=by
 have hr:=zo4 h
 unfold zt1 at hr
 rw[yn,yn] at hr
 rw[eq_of_beq hr.1]
 have e:[40]++Go.Lib.join (zi9 n) [32]++[41]++w=40::(Go.Lib.join (zi9 n) [32]++41::w):=by simp
 rw[e]
 exact zqZ (zkk (fun c hc=>by cases hc;rfl) (zoM hc) _ (zse hr.2.1))
theorem zwC{n:Nat}(h:n<=31)(h1:1<=n)(l:List Tok):brS true ((2,([],0))::(zbk (zi9 n)++(3,([],0))::l))=some ((n:Int),l):=by
 have hr:=zo4 h
 unfold zt1 at hr
 rw[yn,yn,vp] at hr
 rcases hr.2.2 with h|h
 ·have:=eq_of_beq h;omega
 ·rw[yn] at h
  exact zoL (by simpa using h.1) (zvH h.2) l
theorem zvk{k:Int}(h1:1<=k)(h2:k<=8):zeg k≠[]/\(zeg k).all qA=true/\zbw (zeg k)=k:=by
 obtain⟨n,rfl⟩:∃ n:Nat,k=(n:Int):=⟨k.toNat,by omega⟩
 have:=zz7
 rw[yy] at this
 have:=this n (yI.2 (by omega))
 unfold zz6 at this
 rw[vp] at this
 rcases this with h|h
 ·have:=eq_of_beq h;omega
 ·rw[yn,yn] at h
  exact⟨fun e=>(by have:=h.1.1;rw[e] at this;cases this),h.1.2,eq_of_beq h.2⟩
theorem zum{mo:Int}{si:Bool}(h1:0<=mo)(h2:mo<=2):zjg mo si≠[]/\(zjg mo si).all qA=true/\zr0 (zjg mo si)=some (mo,si):=by
 obtain⟨n,rfl⟩:∃ n:Nat,mo=(n:Int):=⟨mo.toNat,by omega⟩
 have:=zy4
 rw[yy] at this
 have:=this n (yI.2 (by omega))
 rw[yn] at this
 have h:zuc n si=true:=by cases si with
  |true=>exact this.1
  |false=>exact this.2
 unfold zuc at h
 rw[yn,yn] at h
 refine⟨fun e=>(by have:=h.1.1;rw[e] at this;cases this),h.1.2,?_⟩
 have:=h.2
 unfold isM at this
 split at this
 ·rename_i x c hc
  rw[yn] at this
  rw[hc,eq_of_beq this.1,eq_of_beq this.2]
 ·cases this
theorem ziL{n:Int}(h:ztt n):zom (zaX n)=some n.toNat:=by
 unfold zaX
 split
 ·rename_i h0;subst h0;rfl
 ·rename_i h0
  obtain⟨h1,h2⟩:=h
  have hv:=zhS (n:=n.toNat) (by omega)
  have hne:dec n.toNat≠[42]:=fun e=>by
   have:=znr (n:=n.toNat) (by omega) 42 (by rw[e];exact yU.2 rfl)
   exact absurd this.1 (by decide)
  unfold zom
  rw[if_neg hne,hv]
  simp only
  rw[if_neg (by omega)]
def zxV(c:UInt8):Bool:=c==42||c==58||(decide (48<=c.toNat)&&decide (c.toNat<=57))
theorem zek{n:Int}(h:ztt n):∀ c ∈ zaX n,zxV c=true/\c≠58:=by
 unfold zaX
 intro c hc
 split at hc
 ·rw[yU.1 hc];exact⟨rfl,by decide⟩
 ·obtain⟨d1,d2⟩:=znr (n:=n.toNat) (by have:=h.2;omega) c hc
  refine⟨by unfold zxV;simp [d1,d2],fun e=>?_⟩
  subst e;exact absurd d2 (by decide)
theorem ziE{r:Int×Int}(h1:ztt r.1)(h2:ztt r.2):∀ c ∈ zf7 r,zxV c=true:=by
 unfold zf7
 intro c hc
 split at hc
 ·exact(zek h1 c hc).1
 ·rcases yT.1 hc with hc|hc
  ·exact(zek h1 c hc).1
  ·rcases yT.1 hc with hc|hc
   ·rw[yU.1 hc];rfl
   ·exact(zek h2 c hc).1
theorem zxz{c:UInt8}(h:zxV c=true):c≠44:=fun e=>by subst e;cases h
theorem zmO(c:UInt8):(!zxV c||qA c)=true:=zlm (f:=fun c=>!zxV c||qA c) (by kernel_rfl) c
theorem zqh{r:Int×Int}(h1:ztt r.1)(h2:ztt r.2):zf4 (zf7 r)=some r:=by
 have n1:∀ x ∈ zaX r.1,x≠58:=fun x hx=>(zek h1 x hx).2
 unfold zf7
 split
 ·rename_i e
  unfold zf4
  rw[ziB n1,ziL h1]
  simp only
  obtain⟨a,b⟩:=r
  simp only at e |-
  subst e
  have:=h1.1
  congr 2<;>omega
 ·unfold zf4
  rw[show zaX r.1++([58]++zaX r.2)=zaX r.1++58::zaX r.2 from rfl,zf3 n1]
  simp only
  rw[vg,show zaX r.1++58::zaX r.2=(zaX r.1++[58])++zaX r.2 by simp,show(zaX r.1).length+1=(zaX r.1++[58]).length by simp,yV,ziL h1,ziL h2]
  simp only
  have:=h1.1;have:=h2.1
  obtain⟨a,b⟩:=r
  simp only at *
  congr 2<;>omega
theorem zj1:∀ (x:LB) (xs:List LB),(∀ a ∈ x::xs,∀ c ∈ a,c≠44)->xE 44 (Go.Lib.join (x::xs) [44])=x::xs
 |x,[],h=>by
  rw[Go.Lib.join_cons,show Go.Lib.joinTail [44] ([]:List LB)=[] from rfl,yv]
  exact zds (ziB (h x (yk ..)))
 |x,y::ys,h=>by
  have ih:=zj1 y ys fun a ha=>h a (yg _ ha)
  have hj:Go.Lib.join (x::y::ys) [44]=x++44::Go.Lib.join (y::ys) [44]:=by rw[Go.Lib.join_cons,Go.Lib.join_cons];simp [Go.Lib.joinTail]
  have hp:=zf3 (w:=Go.Lib.join (y::ys) [44]) (h x (yk ..))
  rw[hj,zfe hp,vg,show x++44::Go.Lib.join (y::ys) [44]=(x++[44])++Go.Lib.join (y::ys) [44] by simp,show x.length+1=(x++[44]).length by simp,yV,ih]
theorem zjT:∀ {st:List (Int×Int)},zm0 st->zb6 (st.map zf7)=some st
 | [],_=>rfl
 |r::st,h=>by
  rw[yw]
  unfold zb6
  rw[zqh (h r (yk ..)).1 (h r (yk ..)).2,zjT fun x hx=>h x (yg _ hx)]
theorem zpr{st:List (Int×Int)}(h0:st≠[])(hu:zm0 st):zuO (zol st)=some st:=by
 unfold zuO zol
 obtain⟨r,s,rfl⟩:∃ r s,st=r::s:=by cases st with
  |nil=>exact absurd rfl h0
  |cons r s=>exact⟨r,s,rfl⟩
 rw[yw,zj1,<- yw,zjT hu]
 rw[<- yw]
 intro a ha c hc
 obtain⟨x,hx,rfl⟩:=List.mem_map.1 ha
 exact zxz (ziE (hu x hx).1 (hu x hx).2 c hc)
theorem zrm(n:Int)(h:ztt n):zaX n≠[]:=by
 unfold zaX
 split
 ·simp
 ·intro e
  have:=zhS (n:=n.toNat) (by have:=h.2;omega)
  rw[e] at this
  cases this
theorem zpt{st:List (Int×Int)}(h0:st≠[])(hu:zm0 st):zol st≠[]/\(zol st).all qA=true:=by
 have hb:∀ x:List (Int×Int),zm0 x->∀ c ∈ Go.Lib.joinTail [44] (x.map zf7),qA c=true:=by
  intro x
  induction x with
  |nil=>intro _ c hc;cases hc
  |cons r s ih=>
   intro hu c hc
   rw[yw,show Go.Lib.joinTail [44] (zf7 r::s.map zf7)=[44]++zf7 r++Go.Lib.joinTail [44] (s.map zf7) by simp [Go.Lib.joinTail]] at hc
   rcases yT.1 hc with hc|hc
   ·rcases yT.1 hc with hc|hc
    ·rw[yU.1 hc];rfl
    ·have:=zmO c
     rw[ziE (hu r (yk ..)).1 (hu r (yk ..)).2 c hc] at this
     simpa using this
   ·exact ih (fun y hy=>hu y (yg _ hy)) c hc
 unfold zol
 obtain⟨r,s,rfl⟩:∃ r s,st=r::s:=by cases st with
  |nil=>exact absurd rfl h0
  |cons r s=>exact⟨r,s,rfl⟩
 have hr:=hu r (yk ..)
 rw[yw,Go.Lib.join_cons]
 constructor
 ·intro e
  have:=(vy.1 e).1
  unfold zf7 at this
  split at this
  ·exact zrm _ hr.1 this
  ·exact zrm _ hr.1 (vy.1 this).1
 ·rw[yy]
  intro c hc
  rcases yT.1 hc with hc|hc
  ·have:=zmO c
   rw[ziE hr.1 hr.2 c hc] at this
   simpa using this
  ·exact hb s (fun y hy=>hu y (yg _ hy)) c hc
theorem zqO(c:UInt8):(!za0 c||qA c)=true:=zlm (f:=fun c=>!za0 c||qA c) (by kernel_rfl) c
theorem zqK{p q:UInt8->Bool}(h:∀ c,(!p c||q c)=true){s:LB}(hs:s.all p=true):s.all q=true:=by
 rw[yy] at hs |-
 intro c hc
 have:=h c
 rw[hs c hc] at this
 simpa using this
theorem ztU(c:UInt8):(!za0 c||zgF c)=true:=by
 unfold zgF
 cases za0 c<;>rfl
theorem znk{m w:LB}{l:List Tok}(hm:m.length<=300)(hw:∀ c,w.head?=some c->qA c=false)(hc:Ch w l):∃ k:Int,Ch (zfR m++w) ((k,(m,0))::l)/\zpM (k,(m,0))=true:=by
 unfold zfR
 split
 ·rename_i h
  refine⟨4,zeT h.1 (zqK zqO h.2) hw hc,?_⟩
  unfold zpM
  rw[if_pos rfl]
  exact zqK ztU h.2
 ·unfold zi5
  cases hq:zgs m with
  |some q=>exact⟨5,zyL hq hc,rfl⟩
  |none=>exact⟨6,zqY (by omega) hc,rfl⟩
theorem zr9(c:UInt8)(h:([]:LB).head?=some c):qA c=false:=by cases h
theorem zgN{w:LB}(c:UInt8)(h:(32::w:LB).head?=some c):qA c=false:=by cases h;rfl
theorem zge{A:Type}{k z:Int}{a:LB}{r:List Tok}{f:Tok->List Tok->Option A}:tk k ((k,(a,z))::r) f=f (k,(a,z)) r:=if_pos rfl
theorem ztp{A:Type}{t:Tok}{r:List Tok}{f:Tok->List Tok->Option A}(h:zpM t=true):tkM (t::r) f=f t r:=if_pos h
theorem zwj(f:UInt8):zdC ((f.toNat:Nat):Int)=f:=by rw[xe (by have:=f.toNat_lt;omega),yQ]
def zjm(al:List LB):LB:=Go.Lib.joinTail [32] al
theorem zcX(a:LB)(al:List LB):zjm (a::al)=32::(a++zjm al):=by unfold zjm;rw[zal];simp
theorem zf6:zjm []=[]:=rfl
theorem zsE(al:List LB):∀ c,(zjm al).head?=some c->qA c=false:=by
 cases al with
 |nil=>exact zr9
 |cons a al=>rw[zcX];exact zgN
theorem zqV{t m:LB}{k:Int}{st:List (Int×Int)}{it mo:Int}{si:Bool}{fl:UInt8}{da:LB}(hs:Sml t m st da)(hu:zm0 st)(hv:VP t k m st it mo si fl da):
  ∃ l,Ch (zeg k++zjm (zkf k m st it mo si fl da)) l/\zkh t l=some (t,(k,(m,(st,(it,(mo,(si,(fl,da)))))))):=by
 obtain⟨s1,s2,s3,s4⟩:=hs
 obtain⟨v1,v2,v3,v4,v5,v6,v7⟩:=hv
 obtain⟨w1,w2,w3⟩:=zvk v2 v3
 suffices h:∃ l,Ch (zjm (zkf k m st it mo si fl da)) l/\zkh t ((4,(zeg k,0))::l)=some (t,(k,(m,(st,(it,(mo,(si,(fl,da)))))))) by
  obtain⟨l,h1,h2⟩:=h
  exact⟨_,zeT w1 w2 (zsE _) h1,h2⟩
 have hb:∀ l,zkh t ((4,(zeg k,0))::l)=if k=0 then none
   else if k<=4 then tkE l (cA t k [] 0 [])
   else if k=5 then SB5 t k l
   else if k=6 then SB6 t k l
   else if k=7 then SB7 t k l
   else SB8 t k l:=fun l=>by
  unfold zkh
  rw[zge]
  simp only[w3]
 simp only[hb]
 unfold zkf
 rcases v7 with⟨rfl,rfl,rfl,rfl,rfl,rfl,rfl⟩|⟨rfl,rfl,rfl,rfl,rfl⟩|⟨rfl,rfl,h0,q1,q2,rfl,rfl,rfl,rfl⟩|⟨rfl,rfl,h0,rfl,q1,q2,rfl⟩|⟨q,rfl,rfl,rfl,rfl,rfl,rfl,rfl⟩
 ·simp only[if_true,zcX,zf6,yv]
  obtain⟨kd,c1,c2⟩:=znk (w:=[]) s2 zr9 zjt
  rw[yv] at c1
  refine⟨_,zhs c1,?_⟩
  rw[if_neg (by decide),if_neg (by decide)]
  unfold SB5
  rw[zge,ztp c2]
  rfl
 ·rw[if_neg (show ¬ ((6:Int)=5) by decide),if_pos rfl]
  simp only[if_neg (show ¬ ((6:Int)=0) by decide),if_neg (show ¬ ((6:Int)<=4) by decide),if_neg (show ¬ ((6:Int)=5) by decide),if_true]
  unfold SB6
  split
  ·rename_i hf
   subst hf
   simp only[zcX,zf6,yv]
   have c0:Ch (zlq da) [(6,(da,0))]:=by have:=zqY (s:=da) (by omega) zjt;rwa [yv] at this
   obtain⟨kd,c1,c2⟩:=znk (m:=m) s2 zgN (zhs c0)
   refine⟨_,zhs c1,?_⟩
   rw[zge,ztp c2,zge]
   rfl
  ·rename_i hf
   simp only[zcX,zf6,yv]
   have c0:Ch (zlq da) [(6,(da,0))]:=by have:=zqY (s:=da) (by omega) zjt;rwa [yv] at this
   have cf:=zoN v6 (zhs c0)
   obtain⟨kd,c1,c2⟩:=znk (m:=m) s2 zgN (zhs cf)
   refine⟨_,zhs c1,?_⟩
   rw[zge,ztp c2,zge]
   have hB:=zqX v6 [(1,(([]:LB),(0:Int))),(6,(da,0))]
   obtain⟨b,r,hr⟩:∃ b r,zbk (zii fl)++(3,(([]:LB),(0:Int)))::[(1,([],0)),(6,(da,0))]=b::r:=by
    cases zbk (zii fl) with
    |nil=>exact⟨_,_,rfl⟩
    |cons x y=>exact⟨_,_,rfl⟩
   rw[hr] at hB |-
   rw[znf,hB]
   simp only[and_self,if_true,yp,zwj]
   rfl
 ·rw[if_neg (show ¬ ((7:Int)=5) by decide),if_neg (show ¬ ((7:Int)=6) by decide),if_pos rfl]
  simp only[if_neg (show ¬ ((7:Int)=0) by decide),if_neg (show ¬ ((7:Int)<=4) by decide),if_neg (show ¬ ((7:Int)=5) by decide),if_neg (show ¬ ((7:Int)=6) by decide),if_true,zcX,zf6,yv]
  obtain⟨n,rfl⟩:∃ n:Nat,it=(n:Int):=⟨it.toNat,by omega⟩
  have c0:=ztW (n:=n) (by omega) zjt
  rw[yv] at c0
  obtain⟨g1,g2⟩:=zpt h0 hu
  refine⟨_,zhs (zeT g1 g2 zgN (zhs c0)),?_⟩
  unfold SB7
  rw[zge,zge]
  simp only[zpr h0 hu,ya]
  rw[zge]
  have hB:=zwC (n:=n) (by omega) (by omega) []
  obtain⟨b,r,hr⟩:∃ b r,zbk (zi9 n)++[(3,(([]:LB),(0:Int)))]=b::r:=by
   cases zbk (zi9 n) with
   |nil=>exact⟨_,_,rfl⟩
   |cons x y=>exact⟨_,_,rfl⟩
  rw[hr] at hB |-
  rw[zrx,hB]
  rfl
 ·rw[if_neg (show ¬ ((8:Int)=5) by decide),if_neg (show ¬ ((8:Int)=6) by decide),if_neg (show ¬ ((8:Int)=7) by decide),if_pos rfl]
  simp only[if_neg (show ¬ ((8:Int)=0) by decide),if_neg (show ¬ ((8:Int)<=4) by decide),if_neg (show ¬ ((8:Int)=5) by decide),if_neg (show ¬ ((8:Int)=6) by decide),if_neg (show ¬ ((8:Int)=7) by decide),zcX,zf6,yv]
  have c0:=zoN v6 zjt
  rw[yv] at c0
  obtain⟨g1,g2⟩:=zpt h0 hu
  obtain⟨m1,m2,m3⟩:=zum (si:=si) q1 q2
  refine⟨_,zhs (zeT g1 g2 zgN (zhs (zeT m1 m2 zgN (zhs c0)))),?_⟩
  unfold SB8
  rw[zge,zge]
  simp only[zpr h0 hu,ya]
  rw[zge,zge]
  simp only[m3,ya]
  rw[zge]
  unfold zrg
  rw[zqX v6 []]
  simp only[ztI,yp,zwj]
  rfl
 ·have e:(if k=5 then[zfR []] else if k=6 then(if(0:UInt8)=0 then[zfR [],zlq []] else[zfR [],zij 0,zlq []]) else if k=7 then[zol [],zkE 0] else if k=8 then[zol [],zjg 0 false,zij 0] else([]:List LB))=[]:=by
   rw[if_neg (by omega),if_neg (by omega),if_neg (by omega),if_neg (by omega)]
  rw[e]
  refine⟨[],zjt,?_⟩
  rw[if_neg (by omega),if_pos q]
  rfl
theorem zxG:xC 32=false:=by kernel_rfl
theorem zjQ{t m:LB}{k:Int}{st:List (Int×Int)}{it mo:Int}{si:Bool}{fl:UInt8}{da:LB}(hs:Sml t m st da)(hu:zm0 st)(hv:VP t k m st it mo si fl da):
  zeH (zfg t k m st it mo si fl da)=((t,(k,(m,(st,(it,(mo,(si,(fl,da)))))))),true):=by
 have hlen:=zee hs hv
 obtain⟨l,h1,h2⟩:=zqV hs hu hv
 have ht:=hv.1
 unfold zfK at ht
 rw[yn] at ht
 have hT:zfg t k m st it mo si fl da=t++32::(zeg k++zjm (zkf k m st it mo si fl da)):=by
  unfold zfg zjm
  rw[Go.Lib.join_cons,zal];simp
 rw[hT] at hlen |-
 generalize zeg k++zjm (zkf k m st it mo si fl da)=w at h1 hlen |-
 have hr:run xC (t++32::w)=t.length:=zoa ht.2 fun c hc=>by cases hc;exact zxG
 have h0:0<t.length:=by
  cases t with
  |nil=>exact absurd ht.1 (by decide)
  |cons=>simp
 have hg:(t++32::w)[t.length]?=some 32:=by simp
 have hd:(t++32::w).drop (t.length+1)=w:=by
  rw[show t++32::w=(t++[32])++w by simp,show t.length+1=(t++[32]).length by simp,yV]
 obtain⟨L,x,a1,a2⟩:=h1 [] 200000 (by simp at hlen;omega)
 unfold zeH
 rw[hr,if_pos ⟨h0,hg⟩,hd]
 rw[yj,yo] at a1
 rw[a1]
 simp only
 rw[vB,vg,<- zwA,a2,h2]
theorem zmA{t m:LB}{k:Int}{st:List (Int×Int)}{it mo:Int}{si:Bool}{fl:UInt8}{da:LB}(hs:Sml t m st da)(hv:¬ VP t k m st it mo si fl da):
  qD 200000 (t,(k,(m,(st,(it,(mo,(si,(fl,da))))))))=some ([],false,())/\wY 200000 (t,(k,(m,(st,(it,(mo,(si,(fl,da))))))))=some ([],false,()):=by
 obtain⟨b1,h1,g1⟩:=zkb t k m st it mo si fl da (by have:=hs.1;omega)
 obtain⟨b2,h2,g2⟩:=zm5 t k m st it mo si fl da (by have:=hs.1;omega) (by have:=hs.2.2.1;omega)
 have e1:b1=false:=by cases b1 with
  |false=>rfl
  |true=>exact absurd (g1.1 rfl) hv
 have e2:b2=false:=by cases b2 with
  |false=>rfl
  |true=>exact absurd (g2.1 rfl) hv
 subst e1 e2
 exact⟨by unfold qD;rw[h1];rfl,by unfold wY;rw[h2];rfl⟩
theorem zsk{t:LB}(h:(zls t).2=false):(zls t).1=[]:=by
 unfold zls at h |-
 split at h
 ·cases h
 ·rename_i hc;rw[if_neg hc]
theorem zqe(c:El uS2)(hw:Wf uS2 c):jr 200000 c=some (true,()):=by
 unfold jr
 obtain⟨f,hf,hs⟩:=zBV c
 rw[hf]
 simp only[ya]
 cases f with
 |false=>rfl
 |true=>
  simp only[yb,cond_false,cond_true]
  have hu:=zwi c hw
  have hsm:=hs rfl
  obtain⟨t,k,m,st,it,mo,si,fl,da⟩:=c
  simp only at hu hsm
  by_cases hv:VP t k m st it mo si fl da
  ·have hlen:=zee hsm hv
   have hp:=zjR hsm hu hv
   have hx:=zjQ hsm hu hv
   have hsame:=zmK (t,(k,(m,(st,(it,(mo,(si,(fl,da)))))))) (by have:=hsm.2.2.1;show st.length<=20001;omega)
   rw[hp]
   generalize zfg t k m st it mo si fl da=T at hlen hx |-
   simp only[ya]
   cases ho:(zls T).2 with
   |false=>
    rw[zsk ho]
    rfl
   |true=>
    obtain⟨o1,o2,n,o3⟩:=zmw ho
    have hL:(T++[13,10]).length=T.length+2:=by simp
    have hw:yr .i64 (((T++[13,10]).length:Int)-2)=((T.length:Nat):Int):=by rw[hL,wri (by omega) (by omega)];omega
    have hb:wo (0:Int) ((T.length:Nat):Int) (T++[13,10]).length=true:=by rw[hL];unfold wo;simp;omega
    have hsl:slice (T++[13,10]) 0 (yB ((T.length:Nat):Int))=T:=by rw[ym];simp [slice]
    have hlt:decide ((((T++[13,10]).length:Nat):Int)<2)=false:=decide_eq_false (by rw[hL];omega)
    simp only[o1,yb,cond_false,hlt,hw,hb,hsl,yf,cond_true,zjP T (by omega),hx,ya,hsame]
  ·rw[(zmA hsm hv).1];rfl
theorem zoS:∀ {l:LB} {e:Nat} (r:LB),zdU l=some e->zdU (l++r)=some e
 | [],e,r,h=>by cases h
 |c::l,e,r,h=>by
  rw[ye]
  unfold zdU at h |-
  by_cases hc:c=13/\l.head?=some 10
  ·rw[if_pos hc] at h
   rw[if_pos ⟨hc.1,by rw[List.head?_append,hc.2];rfl⟩]
   exact h
  ·rw[if_neg hc] at h
   cases he:zdU l with
   |none=>rw[he] at h;cases h
   |some k=>
    rw[he] at h
    have hh:(l++r).head?=l.head?:=by
     cases l with
     |nil=>cases he
     |cons=>rfl
    rw[hh,if_neg hc,zoS r he];exact h
theorem zoP(t r:LB)(b:LB)(hb:b.length=t.length+2):∀ (m n f:Nat),b.length-f<m->f<=b.length->(zaW b f).1=yD n (2,[])++[(1,t)]->zaW (b++r) f=(yD n (2,[])++(1,t)::(zdI r).1,(zdI r).2)
 |0,n,f,h,hf,hc=>by omega
 |m+1,n,f,h,hf,hc=>by
  rw[zay hf] at hc
  rw[zay (b:=b++r) (by rw[yi];omega)]
  cases he:zdU (b.drop f) with
  |none=>
   unfold znD at hc
   rw[he] at hc
   cases n<;>cases hc
  |some e=>
   have hle:=zic he
   have hd:(b++r).drop f=b.drop f++r:=vl hf
   have he':zdU ((b++r).drop f)=some e:=by rw[hd];exact zoS r he
   have hsl:slice (b++r) f (f+e)=slice b f (f+e):=by
    unfold slice
    rw[hd,vm (by rw[yF];omega)]
   have htk:(b++r).take (f+e)=b.take (f+e):=vm (by omega)
   have hdr:(b++r).drop (f+e+2)=b.drop (f+e+2)++r:=vl (by omega)
   unfold znD at hc |-
   rw[he] at hc
   rw[he']
   simp only at hc |-
   rw[hsl]
   by_cases h8:8192<(slice b f (f+e)).length
   ·rw[if_pos h8] at hc
    cases n<;>cases hc
   ·rw[if_neg h8] at hc |-
    cases hn:znd (slice b f (f+e)) with
    |none=>
     rw[hn] at hc
     simp only at hc |-
     cases n with
     |succ n=>cases hc
     |zero=>
      have h1:=(vk hc).1
      have h2:b.take (f+e)=t:=(Prod.mk.inj h1).2
      have hlen:f+e=t.length:=by rw[<- h2,yL];omega
      rw[htk,hdr,h2,yu (by omega),yj,<- zec]
      rfl
    |some k=>
     rw[hn] at hc
     simp only at hc |-
     by_cases h6:65536<k
     ·rw[if_pos h6] at hc
      cases n<;>cases hc
     ·rw[if_neg h6] at hc |-
      simp only at hc |-
      cases n with
      |zero=>cases hc
      |succ n=>
       have h2:=(vk hc).2
       have hf2:f+e+2+k<=b.length:=by
        apply Nat.le_of_not_lt
        intro hlt
        rw[zdT hlt] at h2
        cases n<;>cases h2
       rw[zoP t r b hb m n (f+e+2+k) (by omega) hf2 h2]
       rfl
def zam(c:El uS2):LB×Bool:=match qD 200000 c with
 |some (b,ok,_)=>(b,ok)
 |none=>([],false)
def zxN(c:El uS2):Prop:=Sml c.1 c.2.2.1 c.2.2.2.1 c.2.2.2.2.2.2.2.2
def Prd(c:El uS2)(b:LB):Prop:=∃ T,T.length<=3000/\b=T++[13,10]/\zeH T=(c,true)/\∃ n,(zdI (T++[13,10])).1=yD n (2,[])++[(1,T)]
theorem zsz{c:El uS2}(hs:zxN c)(hu:zm0 c.2.2.2.1):qD 200000 c=some ((zam c).1,(zam c).2,())/\wY 200000 c=some ((zam c).1,(zam c).2,())/\((zam c).2=true->Prd c (zam c).1)/\(zam c).1.length<=3002:=by
 obtain⟨t,k,m,st,it,mo,si,fl,da⟩:=c
 unfold zxN at hs
 simp only at hs hu
 by_cases hv:VP t k m st it mo si fl da
 ·have hlen:=zee hs hv
  have hp:=zjR hs hu hv
  have hr:=zsy hs hu hv
  have hx:=zjQ hs hu hv
  have hV:zam (t,(k,(m,(st,(it,(mo,(si,(fl,da))))))))=zls (zfg t k m st it mo si fl da):=by unfold zam;rw[hp]
  rw[hV]
  refine⟨hp,hr,fun ho=>?_,?_⟩
  ·obtain⟨o1,o2,n,o3⟩:=zmw ho
   exact⟨_,hlen,o1,hx,n,o3⟩
  ·unfold zls;split<;>simp<;>omega
 ·obtain⟨hp,hr⟩:=zmA hs hv
  have hV:zam (t,(k,(m,(st,(it,(mo,(si,(fl,da))))))))=([],false):=by unfold zam;rw[hp]
  rw[hV]
  exact⟨hp,hr,(fun h=>by cases h),by simp⟩
def zlu:List (El uS2)->Option LB
 | []=>some []
 |c::r=>if(zam c).2=true then(zlu r).map fun b=>(zam c).1++b else none
def OkC(c:El uS2):Prop:=zxN c/\zm0 c.2.2.2.1
theorem zzX(cs:List (El uS2))(hl:cs.length<=30)(hok:∀ c ∈ cs,OkC c):∀ (m i:Nat) (out:LB),i<=cs.length->cs.length<m+i->out.length<=3002*i ->
  (∃ o,qR 200000 m cs ((cs.length:Nat):Int) (i:Int) out=some o/\prR o=(zlu (cs.drop i)).map fun b=>out++b)/\(∃ o,jk 200000 m cs (i:Int) out=some o/\prR o=(zlu (cs.drop i)).map fun b=>out++b)
 |0,i,out,hi,h,ho=>by omega
 |m+1,i,out,hi,h,ho=>by
  unfold qR zaP jk zbc
  by_cases hlt:i<cs.length
  ·have hw:yr .i64 ((i:Int)+1)=((i+1:Nat):Int):=by rw[wri (by omega) (by omega)];omega
   have hn:nth uK2 cs (yB (i:Int))=cs[i]:=by rw[ym];exact wO (u:=uK2) hlt
   obtain⟨k1,k2⟩:=hok _ (yM hlt)
   obtain⟨p1,p2,p3,p4⟩:=zsz k1 k2
   have hlo:yP (out.length+(zam cs[i]).1.length) zG=true:=zaj (by omega)
   simp only[zhP hlt,cond_true,jh hlt,hn,hw,p1,p2,ya,hlo]
   rw[drop_one hlt]
   unfold zlu
   cases hp:(zam cs[i]).2 with
   |false=>exact⟨⟨_,rfl,rfl⟩,⟨_,rfl,rfl⟩⟩
   |true=>
    simp only[yb,cond_false,if_true]
    obtain⟨ih1,ih2⟩:=zzX cs hl hok m (i+1) (out++(zam cs[i]).1) (by omega) (by omega) (by rw[yi];omega)
    have e:(Option.map (fun b=>(zam cs[i]).1++b) (zlu (cs.drop (i+1)))).map (fun b=>out++b)=(zlu (cs.drop (i+1))).map fun b=>(out++(zam cs[i]).1)++b:=by
     cases zlu (cs.drop (i+1)) with
     |none=>rfl
     |some b=>simp
    rw[e]
    exact⟨ih1,ih2⟩
  ·have:cs.drop i=[]:=yu (by omega)
   simp only[zhO hlt,cond_false]
   rw[this]
   exact⟨⟨_,rfl,by simp [prR,zlu]⟩,⟨_,rfl,by simp [prR,zlu]⟩⟩
def zAr(o:Option LB):Option (LB×Bool×Unit):=some (match o with
 |some b=>(b,true,())
 |none=>([],false,()))
theorem zve(cs:List (El uS2))(hl:cs.length<=30)(hok:∀ c ∈ cs,OkC c):xY 200000 cs=zAr (zlu cs)/\zaI 200000 cs=zAr (zlu cs):=by
 obtain⟨⟨o,h1,h2⟩,o',h3,h4⟩:=zzX cs hl hok 200000 0 [] (yK _) (by omega) (by simp)
 rw[show((0:Nat):Int)=0 from rfl] at h1 h3
 rw[yz] at h2 h4
 have e:(zlu cs).map (fun b=>[]++b)=zlu cs:=by cases zlu cs<;>rfl
 rw[e] at h2 h4
 unfold xY zaI
 rw[h1,h3,<- h2]
 constructor
 ·cases o<;>rfl
 ·rw[h2,<- h4];cases o'<;>rfl
theorem zsD(n:Nat)(fs:List Frm)(out:List (El uS2)):zjl (yD n ((2:Int),([]:LB))++fs) out=zjl fs out:=by
 induction n with
 |zero=>rfl
 |succ n ih=>
  rw[vD,ye]
  conv=>lhs;unfold zjl
  rw[if_pos rfl,ih]
theorem zpA:∀ (cs:List (El uS2)) (b:LB),(∀ c ∈ cs,OkC c)->zlu cs=some b->b.length<=3002*cs.length/\(zdI b).2=0/\(∀ fr ∈ (zdI b).1,fr.2.length<=3000)/\∀ out,zjl (zdI b).1 out=some (out++cs)
 | [],b,_,h=>by
  cases h
  refine⟨by simp,rfl,(fun fr h=>by cases h),fun out=>?_⟩
  rw[yv];rfl
 |c::r,b,hok,h=>by
  obtain⟨k1,k2⟩:=hok c (yk ..)
  obtain⟨p1,p2,p3,p4⟩:=zsz k1 k2
  unfold zlu at h
  split at h
  ·rename_i hp
   obtain⟨T,t1,t2,t3,n,t4⟩:=p3 hp
   cases hr:zlu r with
   |none=>rw[hr] at h;cases h
   |some rb=>
    rw[hr] at h
    cases h
    obtain⟨q1,q2,q3,q4⟩:=zpA r rb (fun x hx=>hok x (yg _ hx)) hr
    rw[zec] at t4
    have hC:=zoP T rb (T++[13,10]) (by simp) _ n 0 (vH _) (yK _) t4
    have hS:zdI ((zam c).1++rb)=(yD n (2,[])++(1,T)::(zdI rb).1,(zdI rb).2):=by rw[zec,t2,hC]
    rw[hS]
    refine⟨by rw[yi,yh];omega,q2,?_,fun out=>?_⟩
    ·intro fr hfr
     rcases yT.1 hfr with hfr|hfr
     ·rw[List.eq_of_mem_replicate hfr];simp
     ·rcases yJ.1 hfr with rfl|hfr
      ·exact t1
      ·exact q3 fr hfr
    ·simp only
     rw[zsD]
     unfold zjl
     rw[if_neg (by simp),if_pos ⟨by rw[t3],rfl⟩,q4,t3]
     simp
  ·cases h
theorem zCk(N:Nat)(c:El uS2):∃ f:Bool,xL N c=some (f,())/\(f=true->zxN c):=zBV c
theorem zvD(N:Nat)(cs:List (El uS2))(hl:cs.length<=9223372036854775807):∀ (m i:Nat),i<=cs.length->cs.length<m+i->wj N m cs (i:Int)=some (.inl ())\/(wj N m cs (i:Int)=some (.inr cs)/\∀ c ∈ cs.drop i,zxN c)
 |0,i,hi,h=>by omega
 |m+1,i,hi,h=>by
  unfold wj zdx
  by_cases hlt:i<cs.length
  ·have hw:yr .i64 ((i:Int)+1)=((i+1:Nat):Int):=by rw[wri (by omega) (by omega)];omega
   have hn:nth uK2 cs (yB (i:Int))=cs[i]:=by rw[ym];exact wO (u:=uK2) hlt
   obtain⟨f,hf,hs⟩:=zCk N cs[i]
   simp only[zhP hlt,cond_true,jh hlt,hn,hw,hf,ya]
   cases f with
   |false=>exact .inl rfl
   |true=>
    simp only[yb,cond_false]
    rcases zvD N cs hl m (i+1) (by omega) (by omega) with h|⟨h,h2⟩
    ·exact .inl h
    ·refine .inr ⟨h,fun c hc=>?_⟩
     rw[drop_one hlt] at hc
     rcases yJ.1 hc with rfl|hc
     ·exact hs rfl
     ·exact h2 c hc
  ·have:cs.drop i=[]:=yu (by omega)
   simp only[zhO hlt,cond_false]
   rw[this]
   exact .inr ⟨trivial,fun c h=>by cases h⟩
theorem zBW(N:Nat)(cs:List (El uS2))(hl:cs.length<=9223372036854775807)(hN:cs.length<N):∃ f:Bool,zda N cs=some (f,())/\(f=true->cs.length<=30/\∀ c ∈ cs,zxN c):=by
 unfold zda
 have:=zvD N cs hl N 0 (yK _) (by omega)
 rw[show((0:Nat):Int)=0 from rfl] at this
 rcases this with h|⟨h,h2⟩
 ·rw[h];exact⟨false,rfl,fun h=>by cases h⟩
 ·rw[h]
  rw[yz] at h2
  exact⟨_,rfl,fun h=>⟨by have:=of_decide_eq_true h;omega,h2⟩⟩
theorem znN(cs:List (El uS2))(hl:cs.length<=9223372036854775807)(hu:∀ c ∈ cs,zm0 c.2.2.2.1):∃ N,qy N cs=some (true,()):=by
 by_cases h30:cs.length<=30
 ·refine⟨200000,?_⟩
  unfold qy
  obtain⟨f,hf,hs⟩:=zBW 200000 cs hl (by omega)
  rw[hf]
  simp only[ya]
  cases f with
  |false=>rfl
  |true=>
   simp only[yb,cond_false]
   have hok:∀ c ∈ cs,OkC c:=fun c hc=>⟨(hs rfl).2 c hc,hu c hc⟩
   obtain⟨s1,s2⟩:=zve cs h30 hok
   rw[s1,s2]
   cases hS:zlu cs with
   |none=>
    unfold zAr
    have hb1:([]:LB).length<=100000:=by decide
    simp only[ya,zoU _ _ hb1 hb1,beq_self_eq_true,yb,cond_false,yd,cond_true]
   |some b=>
    obtain⟨q1,q2,q3,q4⟩:=zpA cs b hok hS
    have hb:b.length<=100000:=by omega
    have hc:=zgO b
    have hR:=zuC hb (by omega) fun fr hfr=>vj (q3 fr hfr) (by decide)
    have hA:zAc b=some cs:=by unfold zAc;rw[q4];rfl
    rw[if_pos q2,hA] at hR
    have hsame:=zqo cs (by omega) fun c hc=>by have:=((hs rfl).2 c hc).2.2.1;omega
    unfold zAr
    simp only[ya,zoU _ _ hb hb,beq_self_eq_true,yb,cond_false,cond_true,hR,hsame]
 ·refine⟨cs.length+1,?_⟩
  unfold qy
  obtain⟨f,hf,hs⟩:=zBW (cs.length+1) cs hl (by omega)
  rw[hf]
  cases f with
  |false=>rfl
  |true=>exact absurd (hs rfl).1 h30
end Go.Proofs.Model
