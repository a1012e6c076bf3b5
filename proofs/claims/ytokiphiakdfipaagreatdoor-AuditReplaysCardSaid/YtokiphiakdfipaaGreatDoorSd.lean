/- The reference's Parse answers as the program's. -/
import Derived.Test.YtokiphiakdfipaaGreatDoorSc
set_option linter.unusedVariables false
set_option linter.unusedSimpArgs false
set_option linter.unusedSectionVars false
set_option maxRecDepth 100000
namespace Go.Proofs.Model
open Go Go.Gx Go.Mx Go.Sx
section
variable {e:List UInt8} (he:e.length<=100000)
include he
theorem zd6{m:Nat}{r:List UInt8}(hm:m<4294967296)(h:At e 0 (42::32::(dec m++32::r))):∃ x n,qz 200000 e ((2+(dec m).length+1:Nat):Int)=some (x,n,())/\ja 200000 e=cond (x==([69,88,73,83,84,83]:List UInt8)) (some (zjy 1 m,())) (cond (x==([82,69,67,69,78,84]:List UInt8)) (some (zjy 2 m,())) (cond (x==([69,88,80,85,78,71,69]:List UInt8)) (some (zjy 3 m,()))
 (Option.bind (zq 200000 e ((2+(dec m).length+1:Nat):Int) [70,69,84,67,72,32,40]) fun y26=>cond y26.1 (Option.bind (qy 200000 e (IntKind.wrap .i64 (((2+(dec m).length+1:Nat):Int)+7)) (4,((m:Int),([],(0,([],(0,(0,(0,(0,[])))))))))) fun y27=>some (y27.1,())) zG))):=by
 obtain⟨x,n,e1,e2⟩:=zbA he h (zuO he m)
 refine⟨x,n,e1,?_⟩
 rw[e2]
 unfold gR
 rw[show(([42]:List UInt8)==([43]:List UInt8))=false from rfl,show(([42]:List UInt8) != ([42]:List UInt8))=false from rfl,zms he m (by decide),zms he m (by decide),zms he m (by decide),zms he m (by decide)]
 simp only[cond_false]
 unfold zwY
 rw[zgW 200000 (by omega)]
 unfold zn3
 rw[zgm hm]
 rfl
theorem ztl{r:Rsp}{t:List UInt8}(hv:VR r)(hg:Rng r)(ht:At e 0 (qq r++t)):ja 200000 e=some (r,()):=by
 obtain⟨⟨r1,r2⟩,⟨r3,r4⟩,r5,r6⟩:=hg
 cases hv with
 |num k n hk=>
  obtain⟨m,rfl⟩:=xO r1
  have hm:m<4294967296:=by have r2':((m:Nat):Int)<4294967296:=r2;omega
  rcases hk with rfl|rfl|rfl
  ·have ht':At e 0 (42::32::(dec m++32::([69,88,73,83,84,83]++13::10::t))):=by
    rw[show qq (1,((m:Int),([],(0,([],(0,(0,(0,(0,[])))))))))=[42,32]++dec m++[32,69,88,73,83,84,83]++[13,10] from rfl] at ht
    simpa using ht
   obtain⟨x,n,e1,e2⟩:=zd6 he hm ht'
   have h3:At e (2+(dec m).length+1) ([69,88,73,83,84,83]++13::10::t):=At.app (s:=[32]) (At.app (At.app (s:=[42,32]) ht'))
   rw[zfB he h3 (by decide)] at e1
   cases e1
   rw[e2];rfl
  ·have ht':At e 0 (42::32::(dec m++32::([82,69,67,69,78,84]++13::10::t))):=by
    rw[show qq (2,((m:Int),([],(0,([],(0,(0,(0,(0,[])))))))))=[42,32]++dec m++[32,82,69,67,69,78,84]++[13,10] from rfl] at ht
    simpa using ht
   obtain⟨x,n,e1,e2⟩:=zd6 he hm ht'
   have h3:At e (2+(dec m).length+1) ([82,69,67,69,78,84]++13::10::t):=At.app (s:=[32]) (At.app (At.app (s:=[42,32]) ht'))
   rw[zfB he h3 (by decide)] at e1
   cases e1
   rw[e2];rfl
  ·have ht':At e 0 (42::32::(dec m++32::([69,88,80,85,78,71,69]++13::10::t))):=by
    rw[show qq (3,((m:Int),([],(0,([],(0,(0,(0,(0,[])))))))))=[42,32]++dec m++[32,69,88,80,85,78,71,69]++[13,10] from rfl] at ht
    simpa using ht
   obtain⟨x,n,e1,e2⟩:=zd6 he hm ht'
   have h3:At e (2+(dec m).length+1) ([69,88,80,85,78,71,69]++13::10::t):=At.app (s:=[32]) (At.app (At.app (s:=[42,32]) ht'))
   rw[zfB he h3 (by decide)] at e1
   cases e1
   rw[e2];rfl
 |fet n b1 b2 b4 b16 fl uid sz body q0 q1 q2 z1 z2 z4 z16=>
  obtain⟨m,rfl⟩:=xO r1
  obtain⟨u,rfl⟩:=xO r3
  obtain⟨z,rfl⟩:=xO r5
  have hm:m<4294967296:=by have r2':((m:Nat):Int)<4294967296:=r2;omega
  have hu:u<4294967296:=by have r2':((u:Nat):Int)<4294967296:=r4;omega
  have hz:z<4294967296:=by have r2':((z:Nat):Int)<4294967296:=r6;omega
  obtain⟨e1,e2,e4,e16,_⟩:=zed b1 b2 b4 b16
  have ht':At e 0 (42::32::(dec m++32::([70,69,84,67,72,32,40]++(jg b1 b2 b4 b16 fl u z body++41::13::10::t)))):=by
   rw[show qq (4,((m:Int),([],(0,([],(itB b1 b2 b4 b16,(fl,((u:Int),((z:Int),body)))))))))=[42,32]++dec m++[32,70,69,84,67,72,32,40]++jg (bI (itB b1 b2 b4 b16) 1) (bI (itB b1 b2 b4 b16) 2) (bI (itB b1 b2 b4 b16) 4) (bI (itB b1 b2 b4 b16) 16) fl u z body++[41]++[13,10] from rfl,e1,e2,e4,e16] at ht
   simpa using ht
  obtain⟨x,n,g1,g2⟩:=zd6 he hm ht'
  have h3:At e (2+(dec m).length+1) ([70,69,84,67,72,32,40]++(jg b1 b2 b4 b16 fl u z body++41::13::10::t)):=At.app (s:=[32]) (At.app (At.app (s:=[42,32]) ht'))
  have h4:At e (2+(dec m).length+1+7) (jg b1 b2 b4 b16 fl u z body++41::13::10::t):=h3.app
  have hx:x[0]?=none\/x[0]?=some 70:=by
   obtain⟨x',n',g3,_,g4⟩:=zdy he h3.le
   rw[g1] at g3
   cases g3
   rcases g4 with rfl|⟨r,rfl,g4⟩
   ·exact .inl rfl
   ·right
    rw[<- g4]
    have:=congrArg (fun l=>l[0]?) h3.dr
    simp only[List.getElem?_drop,Nat.add_zero] at this
    exact this
  have xn:∀ (c:UInt8) (s:List UInt8),c≠70->(x==c::s)=false:=fun c s hc=>by
   rw[beq_eq_false_iff_ne]
   rintro rfl
   rcases hx with hx|hx
   ·cases hx
   ·exact hc (Option.some.inj hx)
  have hl:=h4.le
  rw[g2,xn _ _ (by decide),xn _ _ (by decide),xn _ _ (by decide)]
  simp only[cond_false]
  rw[zdI he 200000 h3 _ (by decide),zrq]
  simp only[Option.bind_some,cond_true]
  rw[wri (by omega) (by omega),show(((2+(dec m).length+1:Nat):Int)+7)=((2+(dec m).length+1+7:Nat):Int) by omega]
  rw[zvu he (m:Int) q1 q2 z16 hz hu (fun h=>by have:=z4 h;have this:((z:Nat):Int)=0:=this;omega) (fun h=>by have:=z2 h;have this:((u:Nat):Int)=0:=this;omega) z1 (by cases b1<;>cases b2<;>cases b4<;>cases b16<;>first|rfl|exact absurd rfl q0) h4]
  rfl
 |fls=>
  have ht':At e 0 (42::32::([70,76,65,71,83]++32::((flB 31++[41])++13::10::t))):=by
   rw[show qq (5,(0,([],(0,([],(0,(0,(0,(0,[])))))))))=[42,32,70,76,65,71,83,32]++(flB 31++[41])++[13,10] from rfl] at ht
   simpa using ht
  obtain⟨x,n,e1,e2⟩:=zbA he ht' (by decide)
  rw[e2];rfl
 |txt k x hk hx=>
  have hx':∀ c ∈ x,c≠13:=by
   unfold zaN at hx
   simp only[Bool.and_eq_true] at hx
   exact zhF hx.2 zgp
  rcases hk with rfl|rfl|rfl|rfl
  ·have ht':At e 0 (42::32::([79,75]++32::(x++13::10::t))):=by
    rw[show qq (6,(0,([],(0,(x,(0,(0,(0,(0,[])))))))))=[42,32,79,75,32]++x++[13,10] from rfl] at ht
    simpa using ht
   obtain⟨y,n,e1,e2⟩:=zbA he ht' (by decide)
   rw[show(2+([79,75]:List UInt8).length+1:Nat)=5 from rfl,zfB he (i:=5) (At.app (s:=[42,32,79,75,32]) ht') hx'] at e1
   cases e1
   rw[e2];rfl
  ·have ht':At e 0 (42::32::([66,89,69]++32::(x++13::10::t))):=by
    rw[show qq (7,(0,([],(0,(x,(0,(0,(0,(0,[])))))))))=[42,32,66,89,69,32]++x++[13,10] from rfl] at ht
    simpa using ht
   obtain⟨y,n,e1,e2⟩:=zbA he ht' (by decide)
   rw[show(2+([66,89,69]:List UInt8).length+1:Nat)=6 from rfl,zfB he (i:=6) (At.app (s:=[42,32,66,89,69,32]) ht') hx'] at e1
   cases e1
   rw[e2];rfl
  ·have ht':At e 0 (42::32::([66,65,68]++32::(x++13::10::t))):=by
    rw[show qq (8,(0,([],(0,(x,(0,(0,(0,(0,[])))))))))=[42,32,66,65,68,32]++x++[13,10] from rfl] at ht
    simpa using ht
   obtain⟨y,n,e1,e2⟩:=zbA he ht' (by decide)
   rw[show(2+([66,65,68]:List UInt8).length+1:Nat)=6 from rfl,zfB he (i:=6) (At.app (s:=[42,32,66,65,68,32]) ht') hx'] at e1
   cases e1
   rw[e2];rfl
  ·have ht':At e 0 ([43]++32::(x++13::10::t)):=by
    rw[show qq (10,(0,([],(0,(x,(0,(0,(0,(0,[])))))))))=[43,32]++x++[13,10] from rfl] at ht
    simpa using ht
   have h2:At e 2 (x++13::10::t):=At.app (s:=[43,32]) ht'
   rw[zgi]
   have e1:=zk0 he ht' (by decide)
   rw[show((0:Nat):Int)=0 from rfl,show((0+([43]:List UInt8).length+1:Nat):Int)=((2:Nat):Int) from rfl] at e1
   obtain⟨w,n2,e2,l2,k2⟩:=zmb he h2.le
   obtain⟨y,n3,e3,l3,-⟩:=zdy he k2
   rw[e1]
   simp only[Option.bind_some]
   rw[e2]
   simp only[Option.bind_some]
   rw[e3]
   simp only[Option.bind_some]
   rw[zfB he h2 hx']
   rfl
 |tag g x s hg hx h0 h2=>
  have hx':∀ c ∈ x,c≠13:=by
   unfold zaN at hx
   simp only[Bool.and_eq_true] at hx
   exact zhF hx.2 zgp
  unfold zoQ at hg
  simp only[Bool.and_eq_true] at hg
  have hg':∀ c ∈ g,c≠32:=zhF hg.2 zfb.2.2
  obtain⟨w1,w2,w3⟩:=ztq s h0 h2
  have ht':At e 0 (g++32::(wS s++32::(x++13::10::t))):=by
   have:At e 0 (g++[32]++wS s++[32]++x++[13,10]++t):=ht
   simpa using this
  have a2:At e (0+g.length+1) (wS s++32::(x++13::10::t)):=At.app (s:=[32]) ht'.app
  have a3:At e (0+g.length+1+(wS s).length+1) (x++13::10::t):=At.app (s:=[32]) a2.app
  rw[zgi]
  have e1:=zk0 he ht' hg'
  rw[show((0:Nat):Int)=0 from rfl] at e1
  obtain⟨y,n4,e4,l4,-⟩:=zdy he a2.le
  rw[e1]
  simp only[Option.bind_some]
  rw[zk0 he a2 w2]
  simp only[Option.bind_some]
  rw[zfB he a3 hx']
  simp only[Option.bind_some]
  rw[e4]
  simp only[Option.bind_some]
  have n43:(g==([43]:List UInt8))=false:=by
   rw[beq_eq_false_iff_ne];rintro rfl
   exact zhF hg.2 zfb.2.1 43 List.mem_cons_self rfl
  have n42:(g != ([42]:List UInt8))=true:=by
   rw[bne_iff_ne];rintro rfl
   exact zhF hg.2 zfb.1 42 List.mem_cons_self rfl
  unfold gR
  rw[n43,n42,cond_false,cond_true,zsn]
  rcases(show s=0\/s=1\/s=2 by omega) with rfl|rfl|rfl<;>rfl
end
theorem zg6(b:List UInt8)(p:Int):wZ 200000 b p=cond (decide (p<0)) zeU (cond (decide (((List.length b:Nat):Int)<=p)) zeU (cond (zf3 p b&&true) (Option.bind (ja 200000 (zf5 b (Int.toNat p))) fun y1=>Option.bind (wY 200000 y1.1) fun y2=>cond (!y2.1) zeU (Option.bind (j5 200000 y1.1) fun y3=>Option.bind (zq 200000 b p y3.1) fun y4=>cond (!y4.1) zeU (Option.bind (j5 200000 y1.1) fun y5=>some (y1.1,IntKind.wrap .i64 (p+((List.length y5.1:Nat):Int)),true,())))) none)):=by kernel_rfl
theorem zqS{r:Rsp}(h:VR r)(hs:Small r):(qq r).length<=250000:=by
 obtain⟨s1,s2,s3⟩:=hs
 cases h with
 |num k n hk=>
  have hd:=ju n.toNat
  rcases hk with rfl|rfl|rfl
  ·show([42,32]++dec n.toNat++[32,69,88,73,83,84,83]++[13,10]).length<=250000
   simp only[List.length_append,List.length_cons,List.length_nil];omega
  ·show([42,32]++dec n.toNat++[32,82,69,67,69,78,84]++[13,10]).length<=250000
   simp only[List.length_append,List.length_cons,List.length_nil];omega
  ·show([42,32]++dec n.toNat++[32,69,88,80,85,78,71,69]++[13,10]).length<=250000
   simp only[List.length_append,List.length_cons,List.length_nil];omega
 |fet n b1 b2 b4 b16 fl uid sz body q0 q1 q2=>
  have hl:(jg (bI (itB b1 b2 b4 b16) 1) (bI (itB b1 b2 b4 b16) 2) (bI (itB b1 b2 b4 b16) 4) (bI (itB b1 b2 b4 b16) 16) fl uid.toNat sz.toNat body).length<=100500:=by
   unfold jg zg0
   have l1:=zkr fl q1;have l2:=zkt uid.toNat;have l3:=zks sz.toNat;have l4:=zh9 body (by omega)
   cases bI (itB b1 b2 b4 b16) 1<;>cases bI (itB b1 b2 b4 b16) 2<;>cases bI (itB b1 b2 b4 b16) 4<;>cases bI (itB b1 b2 b4 b16) 16<;>simp only[cond_true,cond_false,List.nil_append,List.cons_append,j1,j2,j3,j4,Go.Lib.join_nil,List.length_append,List.length_cons,List.length_nil]<;>omega
  have hd:=ju n.toNat
  show([42,32]++dec n.toNat++[32,70,69,84,67,72,32,40]++jg (bI (itB b1 b2 b4 b16) 1) (bI (itB b1 b2 b4 b16) 2) (bI (itB b1 b2 b4 b16) 4) (bI (itB b1 b2 b4 b16) 16) fl uid.toNat sz.toNat body++[41]++[13,10]).length<=250000
  generalize jg (bI (itB b1 b2 b4 b16) 1) (bI (itB b1 b2 b4 b16) 2) (bI (itB b1 b2 b4 b16) 4) (bI (itB b1 b2 b4 b16) 16) fl uid.toNat sz.toNat body=I at hl |-
  simp only[List.length_append,List.length_cons,List.length_nil];omega
 |fls=>
  obtain⟨_,_,_,_,_,g6⟩:=za3 31 (by decide)
  show([42,32,70,76,65,71,83,32]++(flB 31++[41])++[13,10]).length<=250000
  generalize flB 31=I at g6 |-
  simp only[List.length_append,List.length_cons,List.length_nil];omega
 |txt k t hk ht=>
  have s2':t.length<=100000:=s2
  rcases hk with rfl|rfl|rfl|rfl
  ·show([42,32,79,75,32]++t++[13,10]).length<=250000
   simp only[List.length_append,List.length_cons,List.length_nil];omega
  ·show([42,32,66,89,69,32]++t++[13,10]).length<=250000
   simp only[List.length_append,List.length_cons,List.length_nil];omega
  ·show([42,32,66,65,68,32]++t++[13,10]).length<=250000
   simp only[List.length_append,List.length_cons,List.length_nil];omega
  ·show([43,32]++t++[13,10]).length<=250000
   simp only[List.length_append,List.length_cons,List.length_nil];omega
 |tag g t s hg ht t0 t2=>
  have s1':g.length<=100000:=s1
  have s2':t.length<=100000:=s2
  obtain⟨_,_,w3⟩:=ztq s t0 t2
  show(g++[32]++wS s++[32]++t++[13,10]).length<=250000
  generalize wS s=w at w3 |-
  simp only[List.length_append,List.length_cons,List.length_nil];omega
theorem zwb{e:List UInt8}(he:e.length<=100000)(N:Nat){i:Nat}(hi:i<=e.length)(s:List UInt8)(hs:s.length<=250000):zq N e (i:Int) s=some (pre s (e.drop i),()):=by
 by_cases h:s.length<=100000
 ·exact zb8 he N hi s h
 ·unfold zq
  rw[decide_eq_true (show(i:Int)<=((e.length:Nat):Int) by omega),wri (show -9223372036854775808<=((e.length:Nat):Int)-(i:Int) by omega) (by omega),zi7,decide_eq_false (show ¬ ((s.length:Nat):Int)<=((e.length:Nat):Int)-(i:Int) by omega),decide_eq_false (show ¬ s.length<=(e.drop i).length by rw[List.length_drop];omega)]
  rfl
theorem znA{b:List UInt8}(hb:b.length<=100000)(p:Int):zW 200000 b p=wZ 200000 b p:=by
 by_cases h0:p<0
 ·rw[zcX,zg6,decide_eq_true h0];rfl
 by_cases h1:((b.length:Nat):Int)<=p
 ·rw[zcX,zg6,decide_eq_false h0,decide_eq_true h1];rfl
 obtain⟨i,rfl⟩:∃ i:Nat,p=i:=⟨p.toNat,by omega⟩
 have hi:i<b.length:=by omega
 have hi':=Nat.le_of_lt hi
 have hd:(b.drop i).length<=100000:=by rw[List.length_drop];omega
 rw[zg6,decide_eq_false h0,decide_eq_false h1]
 simp only[cond_false,zeR hi',Bool.and_self,cond_true,Int.toNat_natCast,zcM]
 obtain⟨g,eg,gs,gr⟩:=zqV hd
 obtain⟨v,ev,hv⟩:=zqp g gs
 rw[eg]
 simp only[Option.bind_some,ev]
 by_cases hp:∃ r,PR b i r
 ·obtain⟨r,hp⟩:=hp
  rw[zvp hb hp]
  obtain⟨t,ht⟩:=hp.st
  have hg:=ztl hd (t:=t) hp.v hp.rg ⟨Nat.zero_le _,by rw[List.drop_zero];exact ht.dr⟩
  rw[eg] at hg
  cases hg
  have hbd:=hp.bnd
  rw[hv.2 hp.v,zmw g gs gr hp.v]
  simp only[Bool.not_true,cond_false,Option.bind_some]
  rw[zdI hb 200000 ht _ (by omega),zrq]
  simp only[Bool.not_true,cond_false,Option.bind_some]
  rw[wri (by omega) (by omega),Int.natCast_add]
 ·have hfail:zW 200000 b (i:Int)=zeU:=(zsA hb hi).resolve_left fun⟨r,h,_⟩=>hp ⟨r,h⟩
  rw[hfail]
  cases v with
  |false=>rfl
  |true=>
   have hvg:=hv.1 rfl
   rw[zmw g gs gr hvg]
   simp only[Bool.not_true,cond_false,Option.bind_some]
   rw[zwb hb 200000 hi' _ (zqS hvg gs)]
   simp only[Option.bind_some]
   cases hpp:pre (qq g) (b.drop i) with
   |false=>rfl
   |true=>
    obtain⟨t,ht⟩:=zb4.1 hpp
    exact absurd ⟨g,hvg,gr,gs,t,hi',ht⟩ hp
end Go.Proofs.Model
