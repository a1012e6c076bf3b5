/- Print and Form. -/
import Derived.Test.YtljnndccimlnlaaGreatDoorRj
set_option linter.unusedVariables false
set_option linter.unusedSimpArgs false
set_option maxRecDepth 100000
namespace Go.Proofs.Model
open Go Go.Gx Go.Mx Go.Sx
theorem zaR{x:Int}(h:0<=x):∃ n:Nat,x=n:=⟨x.toNat,by omega⟩
theorem stat(s:Int)(h0:0<=s)(h2:s<=2):inb s 3=true/\nth .str ([([79,75]:List UInt8),([78,79]:List UInt8),([66,65,68]:List UInt8)]:List (List UInt8)) (Int.toNat s)=(if s=0 then[79,75] else if s=1 then[78,79] else[66,65,68]):=by
 rcases(show s=0\/s=1\/s=2 by omega) with rfl|rfl|rfl<;>exact⟨rfl,rfl⟩
theorem znB(s:Int):(if s=0 then([79,75]:List UInt8) else if s=1 then[78,79] else[66,65,68]).length<=3:=by
 split
 ·decide
 ·split<;>decide
set_option maxHeartbeats 2000000 in
theorem zcg(r:Rsp)(hS:Small r)(hR:Rng r):(VR r->jt 200000 r=some (ju r,true,()))/\(¬ VR r->jt 200000 r=some ([],false,())):=by
 obtain⟨b,h1,h2⟩:=zoy r hS
 constructor
 ·intro hv
  have hb:=h2.2 hv
  subst hb
  unfold jt
  rw[h1]
  simp only[Option.bind_some,Bool.not_true,cond_false]
  obtain⟨⟨r1,r2⟩,⟨r3,r4⟩,r5,r6⟩:=hR
  obtain⟨s1,s2,s3⟩:=hS
  cases hv with
  |num k n hk=>
   obtain⟨m,rfl⟩:=zaR r1
   have hm:m<4294967296:=by have r2':((m:Nat):Int)<4294967296:=r2;omega
   have hl:=wF m
   dsimp only
   rcases hk with rfl|rfl|rfl
   ·rw[show(((1:Int))==1)=true from rfl]
    simp (disch:=(first|omega|(simp only[List.length_append,List.length_cons,List.length_nil];omega))) only[cond_true,zbG 200000 m (by omega) hm,Option.bind_some,xL,zbe]
    rw[show ju (1,((m:Int),([],(0,([],(0,(0,(0,(0,[])))))))))=[42,32]++dec m++[32,69,88,73,83,84,83]++[13,10] from rfl]
    simp
   ·rw[show(((2:Int))==1)=false from rfl,show(((2:Int))==2)=true from rfl]
    simp (disch:=(first|omega|(simp only[List.length_append,List.length_cons,List.length_nil];omega))) only[cond_true,cond_false,zbG 200000 m (by omega) hm,Option.bind_some,xL,zbe]
    rw[show ju (2,((m:Int),([],(0,([],(0,(0,(0,(0,[])))))))))=[42,32]++dec m++[32,82,69,67,69,78,84]++[13,10] from rfl]
    simp
   ·rw[show(((3:Int))==1)=false from rfl,show(((3:Int))==2)=false from rfl,show(((3:Int))==3)=true from rfl]
    simp (disch:=(first|omega|(simp only[List.length_append,List.length_cons,List.length_nil];omega))) only[cond_true,cond_false,zbG 200000 m (by omega) hm,Option.bind_some,xL,zbe]
    rw[show ju (3,((m:Int),([],(0,([],(0,(0,(0,(0,[])))))))))=[42,32]++dec m++[32,69,88,80,85,78,71,69]++[13,10] from rfl]
    simp
  |fet n b1 b2 b4 b16 fl uid sz body q0 q1 q2=>
   obtain⟨m,rfl⟩:=zaR r1
   obtain⟨u,rfl⟩:=zaR r3
   obtain⟨z,rfl⟩:=zaR r5
   have hm:m<4294967296:=by have r2':((m:Nat):Int)<4294967296:=r2;omega
   have hu:u<4294967296:=by have r2':((u:Nat):Int)<4294967296:=r4;omega
   have hz:z<4294967296:=by have r2':((z:Nat):Int)<4294967296:=r6;omega
   dsimp only
   rw[show(((4:Int))==1)=false from rfl,show(((4:Int))==2)=false from rfl,show(((4:Int))==3)=false from rfl,show(((4:Int))==4)=true from rfl]
   rw[zo6 m u z _ fl body q1 (by omega) hm hu hz]
   have hl:(j6 (bI (itB b1 b2 b4 b16) 1) (bI (itB b1 b2 b4 b16) 2) (bI (itB b1 b2 b4 b16) 4) (bI (itB b1 b2 b4 b16) 16) fl u z body).length<=100500:=by
    unfold j6 zf8
    have l1:=ziH fl q1;have l2:=ziJ u;have l3:=ziI z;have l4:=ziG body (by omega)
    cases bI (itB b1 b2 b4 b16) 1<;>cases bI (itB b1 b2 b4 b16) 2<;>cases bI (itB b1 b2 b4 b16) 4<;>cases bI (itB b1 b2 b4 b16) 16<;>simp only[cond_true,cond_false,List.nil_append,List.cons_append,j1,j2,j3,j4,Go.Lib.join_nil,List.length_append,List.length_cons,List.length_nil]<;>omega
   have hd:=wF m
   rw[show ju (4,((m:Int),([],(0,([],(itB b1 b2 b4 b16,(fl,((u:Int),((z:Int),body)))))))))=[42,32]++dec m++[32,70,69,84,67,72,32,40]++j6 (bI (itB b1 b2 b4 b16) 1) (bI (itB b1 b2 b4 b16) 2) (bI (itB b1 b2 b4 b16) 4) (bI (itB b1 b2 b4 b16) 16) fl u z body++[41]++[13,10] from rfl]
   generalize j6 (bI (itB b1 b2 b4 b16) 1) (bI (itB b1 b2 b4 b16) 2) (bI (itB b1 b2 b4 b16) 4) (bI (itB b1 b2 b4 b16) 16) fl u z body=I at hl |-
   simp (disch:=(first|omega|(simp only[List.length_append,List.length_cons,List.length_nil];omega))) only[cond_true,cond_false,Option.bind_some,xL,zbe]
  |fls=>
   dsimp only
   rw[show(((5:Int))==1)=false from rfl,show(((5:Int))==2)=false from rfl,show(((5:Int))==3)=false from rfl,show(((5:Int))==4)=false from rfl,show(((5:Int))==5)=true from rfl]
   unfold xG
   obtain⟨g1,_,_,_,_,g6⟩:=zaV 31 (by decide)
   rw[g1]
   rw[show ju (5,(0,([],(0,([],(0,(0,(0,(0,[])))))))))=[42,32,70,76,65,71,83,32]++(flB 31++[41])++[13,10] from rfl]
   simp (disch:=(first|omega|(simp only[List.length_append,List.length_cons,List.length_nil];omega))) only[cond_true,cond_false,Option.bind_some,xL,zbe]
  |txt k t hk ht=>
   dsimp only at s2 |-
   rcases hk with rfl|rfl|rfl|rfl
   ·rw[show(((6:Int))==1)=false from rfl,show(((6:Int))==2)=false from rfl,show(((6:Int))==3)=false from rfl,show(((6:Int))==4)=false from rfl,show(((6:Int))==5)=false from rfl,show(((6:Int))==6)=true from rfl]
    rw[show ju (6,(0,([],(0,(t,(0,(0,(0,(0,[])))))))))=[42,32,79,75,32]++t++[13,10] from rfl]
    simp (disch:=(first|omega|(simp only[List.length_append,List.length_cons,List.length_nil];omega))) only[cond_true,cond_false,Option.bind_some,xL,zbe]
   ·rw[show(((7:Int))==1)=false from rfl,show(((7:Int))==2)=false from rfl,show(((7:Int))==3)=false from rfl,show(((7:Int))==4)=false from rfl,show(((7:Int))==5)=false from rfl,show(((7:Int))==6)=false from rfl,show(((7:Int))==7)=true from rfl]
    rw[show ju (7,(0,([],(0,(t,(0,(0,(0,(0,[])))))))))=[42,32,66,89,69,32]++t++[13,10] from rfl]
    simp (disch:=(first|omega|(simp only[List.length_append,List.length_cons,List.length_nil];omega))) only[cond_true,cond_false,Option.bind_some,xL,zbe]
   ·rw[show(((8:Int))==1)=false from rfl,show(((8:Int))==2)=false from rfl,show(((8:Int))==3)=false from rfl,show(((8:Int))==4)=false from rfl,show(((8:Int))==5)=false from rfl,show(((8:Int))==6)=false from rfl,show(((8:Int))==7)=false from rfl,show(((8:Int))==8)=true from rfl]
    rw[show ju (8,(0,([],(0,(t,(0,(0,(0,(0,[])))))))))=[42,32,66,65,68,32]++t++[13,10] from rfl]
    simp (disch:=(first|omega|(simp only[List.length_append,List.length_cons,List.length_nil];omega))) only[cond_true,cond_false,Option.bind_some,xL,zbe]
   ·rw[show(((10:Int))==1)=false from rfl,show(((10:Int))==2)=false from rfl,show(((10:Int))==3)=false from rfl,show(((10:Int))==4)=false from rfl,show(((10:Int))==5)=false from rfl,show(((10:Int))==6)=false from rfl,show(((10:Int))==7)=false from rfl,show(((10:Int))==8)=false from rfl,show(((10:Int))==9)=false from rfl,show(((10:Int))==10)=true from rfl]
    rw[show ju (10,(0,([],(0,(t,(0,(0,(0,(0,[])))))))))=[43,32]++t++[13,10] from rfl]
    simp (disch:=(first|omega|(simp only[List.length_append,List.length_cons,List.length_nil];omega))) only[cond_true,cond_false,Option.bind_some,xL,zbe]
  |tag g t s hg ht t0 t2=>
   dsimp only at s1 s2 |-
   rw[show(((9:Int))==1)=false from rfl,show(((9:Int))==2)=false from rfl,show(((9:Int))==3)=false from rfl,show(((9:Int))==4)=false from rfl,show(((9:Int))==5)=false from rfl,show(((9:Int))==6)=false from rfl,show(((9:Int))==7)=false from rfl,show(((9:Int))==8)=false from rfl,show(((9:Int))==9)=true from rfl]
   unfold xg
   dsimp only
   rw[(stat s t0 t2).1,(stat s t0 t2).2]
   rw[show ju (9,(0,(g,(s,(t,(0,(0,(0,(0,[])))))))))=g++[32]++(if s=0 then[79,75] else if s=1 then[78,79] else[66,65,68])++[32]++t++[13,10] from rfl]
   have hl:=znB s
   generalize(if s=0 then([79,75]:List UInt8) else if s=1 then[78,79] else[66,65,68])=w at hl |-
   simp (disch:=(first|omega|(simp only[List.length_append,List.length_cons,List.length_nil];omega))) only[cond_true,cond_false,Option.bind_some,xL,zbe]
 ·intro hv
  have hb:b=false:=by
   cases b with
   |false=>rfl
   |true=>exact absurd (h2.1 rfl) hv
  subst hb
  unfold jt
  rw[h1];rfl
end Go.Proofs.Model
