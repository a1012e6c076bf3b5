/- The program's Parse finds each form. -/
import Derived.Test.YtljnndccimlnlaaGreatDoorRv
set_option linter.unusedVariables false
set_option linter.unusedSimpArgs false
set_option linter.unusedSectionVars false
set_option maxRecDepth 100000
namespace Go.Proofs.Model
open Go Go.Gx Go.Mx Go.Sx
theorem ix3(y:List UInt8):zD 200000 [[79,75],[78,79],[66,65,68]] y=(cond (y==([79,75]:List UInt8)) (some (0,())) (cond (y==([78,79]:List UInt8)) (some (1,())) (cond (y==([66,65,68]:List UInt8)) (some (2,())) (some (-1,()))))):=by
 unfold zD
 rw[show zz 200000 200000 [[79,75],[78,79],[66,65,68]] y ((List.length ([[79,75],[78,79],[66,65,68]]:List (List UInt8)):Nat):Int) 0=(cond (y==([79,75]:List UInt8)) (some (Sum.inl 0)) (cond (y==([78,79]:List UInt8)) (some (Sum.inl 1)) (cond (y==([66,65,68]:List UInt8)) (some (Sum.inl 2)) (some (Sum.inr ()))))) by kernel_rfl]
 cases y==([79,75]:List UInt8)<;>cases y==([78,79]:List UInt8)<;>cases y==([66,65,68]:List UInt8)<;>rfl
def wS(s:Int):List UInt8:=if s=0 then[79,75] else if s=1 then[78,79] else[66,65,68]
theorem zrr(s:Int)(h0:0<=s)(h2:s<=2):zD 200000 [[79,75],[78,79],[66,65,68]] (wS s)=some (s,())/\(∀ c ∈ wS s,c≠32)/\(wS s).length<=3:=by
 rw[ix3]
 rcases(show s=0\/s=1\/s=2 by omega) with rfl|rfl|rfl<;>exact⟨rfl,by decide,by decide⟩
section
variable {b:List UInt8} (hb:b.length<=100000)
include hb
theorem zx4{i:Nat}{g x t:List UInt8}{s:Int}(h0:0<=s)(h2:s<=2)(hg:∀ c ∈ g,c≠32)(hx:∀ c ∈ x,c≠13)(h:At b i (g++[32]++wS s++[32]++x++[13,10]++t)):∃ st,zY 200000 (b,(i:Int))=some (st,ztS g x s,()):=by
 obtain⟨w1,w2,w3⟩:=zrr s h0 h2
 have a1:At b i (g++(32::[])++(wS s++[32]++x++[13,10]++t)):=by simpa using h
 have a2:At b (i+(g.length+1)) (wS s++(32::[])++(x++[13,10]++t)):=by
  have:=At.app (s:=g++[32]) (r:=wS s++(32::[])++(x++[13,10]++t)) (by simpa using h)
  simpa using this
 have a3:At b (i+(g.length+1)+((wS s).length+1)) (x++(13::[10])++t):=by
  have:=At.app (s:=wS s++[32]) (r:=x++(13::[10])++t) (by simpa using a2)
  simpa using this
 unfold zY
 rw[zfR 200000 hb a1 (by decide) hg]
 simp only[Option.bind_some,List.length_nil,Nat.zero_add]
 rw[zfR 200000 hb a2 (by decide) w2]
 simp only[Option.bind_some,List.length_nil,Nat.zero_add]
 rw[w1]
 simp only[Option.bind_some]
 rw[decide_eq_false (show ¬ s<0 by omega),cond_false,zfR 200000 hb a3 (by decide) hx]
 exact⟨_,rfl⟩
theorem ztz{i:Nat}{r:Rsp}(h:PR b i r):qg 200000 b (i:Int)=some (r,((i+(ju r).length:Nat):Int),true,()):=by
 obtain⟨t,ht⟩:=h.st
 have hl:=ht.len
 have hi':i<=b.length:=ht.le
 rw[<- zv4 hb hi' h]
 have hne:0<(ju r).length:=by
  cases h.v with
  |num k n hk=>rcases hk with rfl|rfl|rfl<;>exact Nat.zero_lt_succ _
  |fet=>exact Nat.zero_lt_succ _
  |fls=>exact Nat.zero_lt_succ _
  |txt k t hk ht=>rcases hk with rfl|rfl|rfl|rfl<;>exact Nat.zero_lt_succ _
  |tag g t s=>show 0<(g++[32]++wS s++[32]++t++[13,10]).length;simp only[List.length_append,List.length_cons,List.length_nil];omega
 rw[List.length_append] at hl
 rw[zcC,decide_eq_false (show ¬ (i:Int)<0 by omega),decide_eq_false (show ¬ ((b.length:Nat):Int)<=(i:Int) by omega)]
 simp only[cond_false]
 have star:∀ (x:List UInt8),At b i ([42,32]++x)->(∃ st,zB 200000 (b,((i+2:Nat):Int))=some (st,r,())) ->
   (Option.bind (za 200000 (b,(i:Int)) [42,32]) fun y1=>cond y1.2.1 (Option.bind (zB 200000 y1.1) fun y2=>zlV b (i:Int) y2.2.1)
    (Option.bind (za 200000 y1.1 [43,32]) fun y5=>cond y5.2.1 (Option.bind (zA 200000 y5.1 [13,10]) fun y6=>zlV b (i:Int) (zmN 10 y6.2.1)) (Option.bind (zY 200000 y5.1) fun y9=>zlV b (i:Int) y9.2.1)))=zlV b (i:Int) r:=fun x hx ⟨st,e⟩=>by
  rw[zcl 200000 hb hx (by decide)]
  simp only[Option.bind_some,cond_true]
  rw[show i+([42,32]:List UInt8).length=i+2 from rfl,e]
  rfl
 obtain⟨⟨r1,r2⟩,⟨r3,r4⟩,r5,r6⟩:=h.rg
 have hv:=h.v
 cases hv with
 |num k n hk=>
  obtain⟨m,rfl⟩:=zaR r1
  have hm:m<4294967296:=by have r2':((m:Nat):Int)<4294967296:=r2;omega
  rcases hk with rfl|rfl|rfl
  ·have ht':At b i ([42,32]++(dec m++32::([69,88,73,83,84,83]++([13,10]++t)))):=by
    rw[show ju (1,((m:Int),([],(0,([],(0,(0,(0,(0,[])))))))))=[42,32]++dec m++[32,69,88,73,83,84,83]++[13,10] from rfl] at ht
    simpa using ht
   exact star _ ht' (zqU hb 1 (.inl ⟨rfl,rfl⟩) hm ht'.app)
  ·have ht':At b i ([42,32]++(dec m++32::([82,69,67,69,78,84]++([13,10]++t)))):=by
    rw[show ju (2,((m:Int),([],(0,([],(0,(0,(0,(0,[])))))))))=[42,32]++dec m++[32,82,69,67,69,78,84]++[13,10] from rfl] at ht
    simpa using ht
   exact star _ ht' (zqU hb 2 (.inr (.inl ⟨rfl,rfl⟩)) hm ht'.app)
  ·have ht':At b i ([42,32]++(dec m++32::([69,88,80,85,78,71,69]++([13,10]++t)))):=by
    rw[show ju (3,((m:Int),([],(0,([],(0,(0,(0,(0,[])))))))))=[42,32]++dec m++[32,69,88,80,85,78,71,69]++[13,10] from rfl] at ht
    simpa using ht
   exact star _ ht' (zqU hb 3 (.inr (.inr ⟨rfl,rfl⟩)) hm ht'.app)
 |fet n b1 b2 b4 b16 fl uid sz body q0 q1 q2 z1 z2 z4 z16=>
  obtain⟨m,rfl⟩:=zaR r1
  obtain⟨u,rfl⟩:=zaR r3
  obtain⟨z,rfl⟩:=zaR r5
  have hm:m<4294967296:=by have r2':((m:Nat):Int)<4294967296:=r2;omega
  have hu:u<4294967296:=by have r2':((u:Nat):Int)<4294967296:=r4;omega
  have hz:z<4294967296:=by have r2':((z:Nat):Int)<4294967296:=r6;omega
  obtain⟨e1,e2,e4,e16,_⟩:=zeC b1 b2 b4 b16
  have ht':At b i ([42,32]++(dec m++32::([70,69,84,67,72,32,40]++(j6 b1 b2 b4 b16 fl u z body++41::([13,10]++t))))):=by
   rw[show ju (4,((m:Int),([],(0,([],(itB b1 b2 b4 b16,(fl,((u:Int),((z:Int),body)))))))))=[42,32]++dec m++[32,70,69,84,67,72,32,40]++j6 (bI (itB b1 b2 b4 b16) 1) (bI (itB b1 b2 b4 b16) 2) (bI (itB b1 b2 b4 b16) 4) (bI (itB b1 b2 b4 b16) 16) fl u z body++[41]++[13,10] from rfl,e1,e2,e4,e16] at ht
   simpa using ht
  refine star _ ht' ?_
  have e0:=zxk hb hm ht'.app
  rw[show i+([42,32]:List UInt8).length=i+2 from rfl] at e0
  rw[e0]
  have a2:At b (i+2+(dec m).length+1+7) (j6 b1 b2 b4 b16 fl u z body++41::([13,10]++t)):=At.app (s:=[70,69,84,67,72,32,40]) (At.app (s:=[32]) (At.app ht'.app))
  obtain⟨st,e⟩:=zyw hb (m:Int) q1 q2 z16 hz hu (fun h=>by have:=z4 h;have this:((z:Nat):Int)=0:=this;omega) (fun h=>by have:=z2 h;have this:((u:Nat):Int)=0:=this;omega) z1 a2
  rw[e]
  exact⟨_,rfl⟩
 |fls=>
  have ht':At b i ([42,32]++([70,76,65,71,83,32]++((flB 31++[41])++[13,10]++t))):=by
   rw[show ju (5,(0,([],(0,([],(0,(0,(0,(0,[])))))))))=[42,32,70,76,65,71,83,32]++(flB 31++[41])++[13,10] from rfl] at ht
   simpa using ht
  exact star _ ht' (zyS hb ht'.app)
 |txt k x hk hx=>
  have hx':∀ c ∈ x,c≠13:=by
   unfold zby at hx
   simp only[Bool.and_eq_true] at hx
   exact zie hx.2 zgS
  rcases hk with rfl|rfl|rfl|rfl
  ·have ht':At b i ([42,32]++([79,75,32]++(x++[13,10]++t))):=by
    rw[show ju (6,(0,([],(0,(x,(0,(0,(0,(0,[])))))))))=[42,32,79,75,32]++x++[13,10] from rfl] at ht
    simpa using ht
   exact star _ ht' (zx6 hb 6 _ x t (.inl ⟨rfl,rfl⟩) ht'.app hx')
  ·have ht':At b i ([42,32]++([66,89,69,32]++(x++[13,10]++t))):=by
    rw[show ju (7,(0,([],(0,(x,(0,(0,(0,(0,[])))))))))=[42,32,66,89,69,32]++x++[13,10] from rfl] at ht
    simpa using ht
   exact star _ ht' (zx6 hb 7 _ x t (.inr (.inl ⟨rfl,rfl⟩)) ht'.app hx')
  ·have ht':At b i ([42,32]++([66,65,68,32]++(x++[13,10]++t))):=by
    rw[show ju (8,(0,([],(0,(x,(0,(0,(0,(0,[])))))))))=[42,32,66,65,68,32]++x++[13,10] from rfl] at ht
    simpa using ht
   exact star _ ht' (zx6 hb 8 _ x t (.inr (.inr ⟨rfl,rfl⟩)) ht'.app hx')
  ·have ht':At b i ([43,32]++(x++(13::[10])++t)):=by
    rw[show ju (10,(0,([],(0,(x,(0,(0,(0,(0,[])))))))))=[43,32]++x++[13,10] from rfl] at ht
    simpa using ht
   rw[zaF 200000 hb ht' (by decide) rfl]
   simp only[Option.bind_some,cond_false]
   rw[zcl 200000 hb ht' (by decide)]
   simp only[Option.bind_some,cond_true]
   rw[zfR 200000 hb ht'.app (by decide) hx']
   rfl
 |tag g x s hg hx h0 h2=>
  have hx':∀ c ∈ x,c≠13:=by
   unfold zby at hx
   simp only[Bool.and_eq_true] at hx
   exact zie hx.2 zgS
  unfold zpn at hg
  simp only[Bool.and_eq_true] at hg
  have hg':∀ c ∈ g,c≠32:=zie hg.2 zfA.2.2
  have ht':At b i (g++[32]++wS s++[32]++x++[13,10]++t):=ht
  obtain⟨c,g',rfl⟩:∃ c g',g=c::g':=by
   cases g with
   |nil=>simp at hg
   |cons c g'=>exact⟨c,g',rfl⟩
  have n1:(42==c)=false:=by rw[beq_eq_false_iff_ne];exact(zie hg.2 zfA.1 c List.mem_cons_self).symm
  have n2:(43==c)=false:=by rw[beq_eq_false_iff_ne];exact(zie hg.2 zfA.2.1 c List.mem_cons_self).symm
  have ht2:At b i (c::(g'++[32]++wS s++[32]++x++[13,10]++t)):=by simpa using ht'
  rw[zaF 200000 hb ht2 (by decide) (zla n1)]
  simp only[Option.bind_some,cond_false]
  rw[zaF 200000 hb ht2 (by decide) (zla n2)]
  simp only[Option.bind_some,cond_false]
  obtain⟨st,e⟩:=zx4 hb h0 h2 hg' hx' ht'
  rw[e]
  rfl
end
end Go.Proofs.Model
