/- ReplyInverse. -/
import Derived.Test.YtljnndccimlnlaaGreatDoorSe
set_option linter.unusedVariables false
set_option linter.unusedSimpArgs false
set_option linter.unusedSectionVars false
set_option maxRecDepth 100000
namespace Go.Proofs.Model
open Go Go.Gx Go.Mx Go.Sx
def ztY(r:Rsp):Prop:=r.2.2.1.length<=100/\r.2.2.2.2.1.length<=300/\r.2.2.2.2.2.2.2.2.2.length<=500
theorem ztY.small{r:Rsp}(h:ztY r):Small r:=⟨Nat.le_trans h.1 (by decide),Nat.le_trans h.2.1 (by decide),Nat.le_trans h.2.2 (by decide)⟩
theorem zm7(N:Nat)(xs:List Rsp)(hl:xs.length<=9223372036854775807):∀ (m j:Nat),j<=xs.length->xs.length<m+j->kd N m xs (j:Int)=some (Sum.inl ())\/(kd N m xs (j:Int)=some (Sum.inr xs)/\∀ (q:Nat) (h:q<xs.length),j<=q->ztY xs[q])
 |0,j,h1,h2=>by omega
 |m+1,j,h1,h2=>by
  unfold kd zcL
  by_cases h:j<xs.length
  ·rw[zh8 h,jJ h,Int.toNat_natCast,zad (u:=uR1) h]
   simp only[cond_true]
   by_cases c1:(100:Int)<((xs[j].2.2.1.length:Nat):Int)
   ·rw[decide_eq_true c1];exact .inl rfl
   ·rw[decide_eq_false c1,cond_false]
    by_cases c2:(300:Int)<((xs[j].2.2.2.2.1.length:Nat):Int)
    ·rw[decide_eq_true c2];exact .inl rfl
    ·rw[decide_eq_false c2,cond_false]
     by_cases c3:(500:Int)<((xs[j].2.2.2.2.2.2.2.2.2.length:Nat):Int)
     ·rw[decide_eq_true c3];exact .inl rfl
     ·rw[decide_eq_false c3,cond_false,wri (by omega) (by omega),show((j:Int)+1)=((j+1:Nat):Int) by omega]
      refine(zm7 N xs hl m (j+1) (by omega) (by omega)).imp id fun⟨e,hq⟩=>⟨e,fun q h hjq=>?_⟩
      by_cases hqj:q=j
      ·subst hqj;exact⟨by omega,by omega,by omega⟩
      ·exact hq q h (by omega)
  ·rw[zjy h];exact .inr ⟨rfl,fun q h1 h2=>by omega⟩
theorem zth(N:Nat)(xs:List Rsp)(hl:xs.length<=9223372036854775807)(hN:xs.length<N):∃ b,zcq N xs=some (b,())/\(b=true->xs.length<=60/\∀ r ∈ xs,ztY r):=by
 unfold zcq
 have:=zm7 N xs hl N 0 (Nat.zero_le _) (by omega)
 rw[show((0:Nat):Int)=0 from rfl] at this
 rcases this with e|⟨e,hq⟩
 ·rw[e];exact⟨false,rfl,fun h=>by cases h⟩
 ·rw[e]
  refine⟨_,rfl,fun h=>?_⟩
  have h:=of_decide_eq_true h
  refine⟨by omega,fun r hr=>?_⟩
  obtain⟨q,hq1,rfl⟩:=List.getElem_of_mem hr
  exact hq q hq1 (Nat.zero_le _)
noncomputable def vb(r:Rsp):Bool:=@decide (VR r) (Classical.propDecidable _)
theorem zvj{r:Rsp}:vb r=true↔VR r:=by unfold vb;exact @decide_eq_true_iff _ (Classical.propDecidable _)
theorem zyl{r:Rsp}(h:vb r=false):¬ VR r:=fun hv=>by rw[zvj.2 hv] at h;cases h
theorem zsq{r:Rsp}(h:Small r):j7 200000 r=some (vb r,()):=by
 obtain⟨b,e,hb⟩:=zlD r h
 rw[e]
 cases hv:vb r with
 |true=>rw[hb.2 (zvj.1 hv)]
 |false=>
  cases b with
  |true=>exact absurd (hb.1 rfl) (zyl hv)
  |false=>rfl
noncomputable def zlI:List Rsp->List UInt8
 | []=>[]
 |r::rs=>cond (vb r) (ju r) []++zlI rs
theorem zrP{r:Rsp}(h:Small r)(hr:Rng r):jt 200000 r=some (cond (vb r) (ju r) [],vb r,()):=by
 cases hv:vb r with
 |true=>exact(zcg r h hr).1 (zvj.1 hv)
 |false=>exact(zcg r h hr).2 (zyl hv)
theorem zm8{r:Rsp}(h:VR r)(hs:ztY r):(ju r).length<=1000:=by
 obtain⟨s1,s2,s3⟩:=hs
 cases h with
 |num k n hk=>
  have hd:=wF n.toNat
  rcases hk with rfl|rfl|rfl
  ·show([42,32]++dec n.toNat++[32,69,88,73,83,84,83]++[13,10]).length<=1000
   simp only[List.length_append,List.length_cons,List.length_nil];omega
  ·show([42,32]++dec n.toNat++[32,82,69,67,69,78,84]++[13,10]).length<=1000
   simp only[List.length_append,List.length_cons,List.length_nil];omega
  ·show([42,32]++dec n.toNat++[32,69,88,80,85,78,71,69]++[13,10]).length<=1000
   simp only[List.length_append,List.length_cons,List.length_nil];omega
 |fet n b1 b2 b4 b16 fl uid sz body q0 q1 q2=>
  have s3':body.length<=500:=s3
  have hl:(j6 (bI (itB b1 b2 b4 b16) 1) (bI (itB b1 b2 b4 b16) 2) (bI (itB b1 b2 b4 b16) 4) (bI (itB b1 b2 b4 b16) 16) fl uid.toNat sz.toNat body).length<=900:=by
   unfold j6 zf8
   have l1:=ziH fl q1;have l2:=ziJ uid.toNat;have l3:=ziI sz.toNat
   have l4:(pB body).length<=540:=by
    unfold pB ze9
    have:=wF body.length
    simp only[List.length_append,List.length_cons,List.length_nil];omega
   cases bI (itB b1 b2 b4 b16) 1<;>cases bI (itB b1 b2 b4 b16) 2<;>cases bI (itB b1 b2 b4 b16) 4<;>cases bI (itB b1 b2 b4 b16) 16<;>simp only[cond_true,cond_false,List.nil_append,List.cons_append,j1,j2,j3,j4,Go.Lib.join_nil,List.length_append,List.length_cons,List.length_nil]<;>omega
  have hd:=wF n.toNat
  show([42,32]++dec n.toNat++[32,70,69,84,67,72,32,40]++j6 (bI (itB b1 b2 b4 b16) 1) (bI (itB b1 b2 b4 b16) 2) (bI (itB b1 b2 b4 b16) 4) (bI (itB b1 b2 b4 b16) 16) fl uid.toNat sz.toNat body++[41]++[13,10]).length<=1000
  generalize j6 (bI (itB b1 b2 b4 b16) 1) (bI (itB b1 b2 b4 b16) 2) (bI (itB b1 b2 b4 b16) 4) (bI (itB b1 b2 b4 b16) 16) fl uid.toNat sz.toNat body=I at hl |-
  simp only[List.length_append,List.length_cons,List.length_nil];omega
 |fls=>
  obtain⟨_,_,_,_,_,g6⟩:=zaV 31 (by decide)
  show([42,32,70,76,65,71,83,32]++(flB 31++[41])++[13,10]).length<=1000
  generalize flB 31=I at g6 |-
  simp only[List.length_append,List.length_cons,List.length_nil];omega
 |txt k t hk ht=>
  have s2':t.length<=300:=s2
  rcases hk with rfl|rfl|rfl|rfl
  ·show([42,32,79,75,32]++t++[13,10]).length<=1000
   simp only[List.length_append,List.length_cons,List.length_nil];omega
  ·show([42,32,66,89,69,32]++t++[13,10]).length<=1000
   simp only[List.length_append,List.length_cons,List.length_nil];omega
  ·show([42,32,66,65,68,32]++t++[13,10]).length<=1000
   simp only[List.length_append,List.length_cons,List.length_nil];omega
  ·show([43,32]++t++[13,10]).length<=1000
   simp only[List.length_append,List.length_cons,List.length_nil];omega
 |tag g t s hg ht t0 t2=>
  have s1':g.length<=100:=s1
  have s2':t.length<=300:=s2
  obtain⟨_,_,w3⟩:=zrr s t0 t2
  show(g++[32]++wS s++[32]++t++[13,10]).length<=1000
  generalize wS s=w at w3 |-
  simp only[List.length_append,List.length_cons,List.length_nil];omega
theorem zoX:∀ (xs:List Rsp),(∀ r ∈ xs,ztY r)->(zlI xs).length<=1000*xs.length
 | [],_=>Nat.zero_le _
 |r::rs,h=>by
  have ih:=zoX rs fun x hx=>h x (List.mem_cons_of_mem _ hx)
  unfold zlI
  rw[List.length_append,List.length_cons]
  cases hv:vb r with
  |true=>have:=zm8 (zvj.1 hv) (h r List.mem_cons_self);simp only[cond_true];omega
  |false=>simp only[cond_false,List.length_nil];omega
section
variable (xs:List Rsp) (hl:xs.length<=60) (hL:∀ r ∈ xs,ztY r) (hR:∀ r ∈ xs,Rng r)
include hl hL hR
theorem zqZ:∀ (m j:Nat) (acc:List UInt8),j<=xs.length->xs.length<m+j->acc.length<=1000*j->kO 200000 m xs ((xs.length:Nat):Int) (j:Int) acc=some (acc++zlI (xs.drop j))
 |0,j,acc,h1,h2,h3=>by omega
 |m+1,j,acc,h1,h2,h3=>by
  unfold kO zcN
  by_cases h:j<xs.length
  ·have hm:xs[j] ∈ xs:=List.getElem_mem h
   rw[zh8 h,jJ h,Int.toNat_natCast,zad (u:=uR1) h,zrP (hL _ hm).small (hR _ hm)]
   simp only[cond_true,Option.bind_some]
   have hf:(cond (vb xs[j]) (ju xs[j]) []).length<=1000:=by
    cases hv:vb xs[j] with
    |true=>exact zm8 (zvj.1 hv) (hL _ hm)
    |false=>exact Nat.zero_le _
   rw[zbe (by omega),cond_true,wri (by omega) (by omega),show((j:Int)+1)=((j+1:Nat):Int) by omega]
   rw[zqZ m (j+1) _ (by omega) (by omega) (by rw[List.length_append];omega),List.append_assoc]
   rw[List.drop_eq_getElem_cons h]
   rfl
  ·rw[zjy h,List.drop_of_length_le (by omega)]
   unfold zlI
   rw[List.append_nil];rfl
theorem zmp(b:List UInt8)(ys:List Rsp)(n:Int):∀ (m j:Nat) (acc:List Rsp),j<=xs.length->xs.length<m+j->acc.length<=j->qF 200000 m b ys n xs ((xs.length:Nat):Int) (j:Int) acc=some (b,ys,n,acc++(xs.drop j).filter vb)
 |0,j,acc,h1,h2,h3=>by omega
 |m+1,j,acc,h1,h2,h3=>by
  unfold qF xz
  by_cases h:j<xs.length
  ·have hm:xs[j] ∈ xs:=List.getElem_mem h
   rw[zh8 h,jJ h,Int.toNat_natCast,zad (u:=uR1) h,zsq (hL _ hm).small]
   simp only[cond_true,Option.bind_some]
   rw[wri (by omega) (by omega),show((j:Int)+1)=((j+1:Nat):Int) by omega,List.drop_eq_getElem_cons h,List.filter_cons]
   cases hv:vb xs[j] with
   |true=>
    rw[cond_true,zpM (by omega),cond_true]
    rw[zmp b ys n m (j+1) _ (by omega) (by omega) (by simp only[List.length_append,List.length_cons,List.length_nil];omega),List.append_assoc]
    rfl
   |false=>
    rw[cond_false]
    exact zmp b ys n m (j+1) acc (by omega) (by omega) (by omega)
  ·rw[zjy h,List.drop_of_length_le (by omega),List.filter_nil,List.append_nil];rfl
end
theorem zfh:∀ xs:List Rsp,zlI xs=zlI (xs.filter vb)
 | []=>rfl
 |r::rs=>by
  rw[List.filter_cons]
  cases hv:vb r with
  |true=>
   rw[if_pos rfl]
   unfold zlI
   rw[zfh rs]
  |false=>
   rw[if_neg (by decide)]
   conv=>lhs;unfold zlI
   rw[hv,zfh rs];rfl
theorem zpY{b:List UInt8}(hb:b.length<=100000):∀ (ys:List Rsp) (m i:Nat) (acc:List Rsp),(∀ r ∈ ys,VR r/\Rng r/\Small r)->At b i (zlI ys)->ys.length<m->acc.length+ys.length<=60->qv 200000 m b (i:Int) acc=some (((b.length:Nat):Int),acc++ys)
 |_,0,i,acc,h,ha,hm,hc=>by omega
 | [],m+1,i,acc,h,ha,hm,hc=>by
  have hi:i=b.length:=by
   have:=ha.len
   simp only[zlI,List.length_nil] at this
   have:=ha.le
   omega
  subst hi
  have e:qg 200000 b ((b.length:Nat):Int)=zes:=by
   rw[zcC,decide_eq_false (by omega),decide_eq_true (Int.le_refl _)];rfl
  rw[zem m e,List.append_nil];rfl
 |y::ys,m+1,i,acc,h,ha,hm,hc=>by
  obtain⟨hv,hr,hs⟩:=h y List.mem_cons_self
  have ha':At b i (ju y++zlI ys):=by
   unfold zlI at ha
   rw[zvj.2 hv] at ha
   exact ha
  have hp:PR b i y:=⟨hv,hr,hs,_,ha'⟩
  rw[zem m (ztz hb hp),zpM (by simp only[List.length_cons] at hc;omega)]
  simp only[Bool.not_true,cond_false,cond_true]
  rw[zpY hb ys m _ _ (fun r hr=>h r (List.mem_cons_of_mem _ hr)) ha'.app (by simp only[List.length_cons] at hm;omega) (by simp only[List.length_append,List.length_cons,List.length_nil] at hc |-;omega),List.append_assoc]
  rfl
theorem zmb(xs:List Rsp)(hl:xs.length<=9223372036854775807)(hR:∀ r ∈ xs,Rng r):∃ N,jB N xs=some (true,()):=by
 by_cases h60:xs.length<=60
 ·refine⟨200000,?_⟩
  obtain⟨b,e,hb⟩:=zth 200000 xs hl (by omega)
  unfold jB
  rw[e]
  cases b with
  |false=>rfl
  |true=>
   obtain⟨_,hL⟩:=hb rfl
   simp only[Option.bind_some,Bool.not_true,cond_false]
   have hw:=zqZ xs h60 hL hR 200000 0 [] (Nat.zero_le _) (by omega) (Nat.zero_le _)
   rw[List.drop_zero,List.nil_append,show((0:Nat):Int)=0 from rfl] at hw
   unfold zfc
   rw[hw]
   simp only[Option.bind_some]
   have hc:=zoX xs hL
   have hcl:(zlI xs).length<=100000:=by omega
   have hfl:(xs.filter vb).length<=60:=Nat.le_trans (List.length_filter_le _ _) h60
   have hr:=zpY hcl (xs.filter vb) 200000 0 [] (fun r hr=>by
    obtain⟨h1,h2⟩:=List.mem_filter.1 hr
    exact⟨zvj.1 h2,hR _ h1,(hL _ h1).small⟩) ⟨Nat.zero_le _,by rw[List.drop_zero];exact zfh xs⟩ (by omega) (by simp only[List.length_nil];omega)
   rw[List.nil_append,show((0:Nat):Int)=0 from rfl] at hr
   unfold zai
   rw[hr]
   simp only[Option.bind_some]
   have hk:=zmp xs h60 hL hR (zlI xs) (xs.filter vb) (((zlI xs).length:Nat):Int) 200000 0 [] (Nat.zero_le _) (by omega) (Nat.zero_le _)
   rw[List.drop_zero,List.nil_append,show((0:Nat):Int)=0 from rfl] at hk
   rw[hk]
   simp only[Option.bind_some,cond_true]
   rw[zqx _ (by omega)]
   simp only[Option.bind_some,cond_true,beq_self_eq_true]
 ·refine⟨xs.length+1,?_⟩
  obtain⟨b,e,hb⟩:=zth (xs.length+1) xs hl (Nat.lt_succ_self _)
  unfold jB
  rw[e]
  cases b with
  |false=>rfl
  |true=>exact absurd (hb rfl).1 h60
end Go.Proofs.Model
