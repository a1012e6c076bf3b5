/- The program's Parse: what it answers. -/
import Derived.Test.YtokiphiakdfipaaGreatDoorRt
set_option linter.unusedVariables false
set_option linter.unusedSimpArgs false
set_option linter.unusedSectionVars false
set_option maxRecDepth 100000
namespace Go.Proofs.Model
open Go Go.Gx Go.Mx Go.Sx
section
variable {b:List UInt8} (hb:b.length<=100000)
include hb
theorem zu7{n:Int}{i:Nat}(hi:i<=b.length):(∃ (j:Nat) (k:Int),zi 200000 200000 n 0 b (i:Int) 0 zju=some (Sum.inl (b,(j:Int),k,n,0,zju)))\/∃ j:Nat,j<=b.length/\zi 200000 200000 n 0 b (i:Int) 0 zju=some (Sum.inr (n,b,(j:Int),0,zju)):=by
 have e0:=ztv 199999 n b i
 rw[show(199999+1:Nat)=200000 from rfl] at e0
 rw[e0,show(199999:Nat)=199998+1 from rfl,ztw]
 obtain⟨j,hj,ok,e⟩:=xE 200000 hb hi [69,88,73,83,84,83] (by decide)
 rw[e]
 cases ok with
 |true=>exact .inl ⟨j,1,rfl⟩
 |false=>
  simp only[Option.bind_some,cond_false]
  rw[show(199998:Nat)=199997+1 from rfl,zq1]
  obtain⟨j,hj,ok,e⟩:=xE 200000 hb hj [82,69,67,69,78,84] (by decide)
  rw[e]
  cases ok with
  |true=>exact .inl ⟨j,2,rfl⟩
  |false=>
   simp only[Option.bind_some,cond_false]
   rw[show(199997:Nat)=199996+1 from rfl,ztx]
   obtain⟨j,hj,ok,e⟩:=xE 200000 hb hj [69,88,80,85,78,71,69] (by decide)
   rw[e]
   cases ok with
   |true=>exact .inl ⟨j,3,rfl⟩
   |false=>
    simp only[Option.bind_some,cond_false]
    rw[show(199996:Nat)=199995+1 from rfl,zu6]
    exact .inr ⟨j,hj,rfl⟩
theorem zkU{i:Nat}(hi:i<=b.length):Goo b (zy 200000 (b,(i:Int))):=by
 rw[zb9]
 rcases zu5 hb hi with⟨j,k,x,hx,e⟩|⟨j,hj,e⟩
 ·rw[e]
  exact⟨j,zma k x,rfl,zbO hx,zfk⟩
 ·rw[e]
  simp only[Option.bind_some,zv]
  obtain⟨j,hj,ok,e⟩:=xE 200000 hb hj [70,76,65,71,83,32] (by decide)
  rw[e]
  cases ok with
  |true=>exact⟨j,zjy 5 0,rfl,zbN,zfj z32⟩
  |false=>
   simp only[Option.bind_some,cond_false]
   obtain⟨j,hj,n,ok,e,n1,n2⟩:=zgX 200000 hb (by omega) (by omega) hj
   rw[e]
   cases ok with
   |false=>exact zca j
   |true=>
    simp only[Option.bind_some,Bool.not_true,cond_false]
    obtain⟨j,hj,ok,e⟩:=xE 200000 hb hj [32] (by decide)
    rw[e]
    cases ok with
    |false=>exact zca j
    |true=>
     simp only[Option.bind_some,Bool.not_true,cond_false]
     rcases zu7 hb (n:=n) hj with⟨j,k,e⟩|⟨j,hj,e⟩
     ·rw[e];exact⟨j,zjy k n,rfl,zbN,zfj ⟨n1,n2⟩⟩
     ·rw[e]
      simp only[Option.bind_some,zv]
      obtain⟨j,hj,ok,e⟩:=xE 200000 hb hj [70,69,84,67,72,32,40] (by decide)
      rw[e]
      cases ok with
      |false=>exact zca j
      |true=>
       simp only[Option.bind_some,cond_true]
       obtain⟨j,r,e,h1,h2⟩:=zlc hb (p1:=n) ⟨n1,n2⟩ hj
       rw[e]
       exact⟨j,r,rfl,h1,h2⟩
theorem znV{i:Nat}(hi:i<=b.length):Goo b (zL 200000 (b,(i:Int))):=by
 unfold zL
 obtain⟨j,hj,x,ok,e,hx,_⟩:=zc3 200000 hb hi (s:=[32]) (by decide) (by decide)
 rw[e]
 simp only[Option.bind_some]
 obtain⟨j,hj,y,ok,e,hy,_⟩:=zc3 200000 hb hj (s:=[32]) (by decide) (by decide)
 rw[e]
 simp only[Option.bind_some]
 obtain⟨k,hk⟩:∃ k:Int,zz 200000 [[79,75],[78,79],[66,65,68]] y=some (k,()):=by
  have:zz 200000 [[79,75],[78,79],[66,65,68]] y=(cond (y==([79,75]:List UInt8)) (some (0,())) (cond (y==([78,79]:List UInt8)) (some (1,())) (cond (y==([66,65,68]:List UInt8)) (some (2,())) (some (-1,()))))):=by
   unfold zz
   rw[show zE 200000 200000 [[79,75],[78,79],[66,65,68]] y ((List.length ([[79,75],[78,79],[66,65,68]]:List (List UInt8)):Nat):Int) 0=(cond (y==([79,75]:List UInt8)) (some (Sum.inl 0)) (cond (y==([78,79]:List UInt8)) (some (Sum.inl 1)) (cond (y==([66,65,68]:List UInt8)) (some (Sum.inl 2)) (some (Sum.inr ()))))) by kernel_rfl]
   cases y==([79,75]:List UInt8)<;>cases y==([78,79]:List UInt8)<;>cases y==([66,65,68]:List UInt8)<;>rfl
  rw[this]
  cases y==([79,75]:List UInt8)<;>cases y==([78,79]:List UInt8)<;>cases y==([66,65,68]:List UInt8)<;>exact⟨_,rfl⟩
 rw[hk]
 simp only[Option.bind_some]
 cases decide (k<0) with
 |true=>exact zca j
 |false=>
  simp only[cond_false]
  obtain⟨j,hj,z,ok,e,hz,_⟩:=zc3 200000 hb hj (s:=[13,10]) (by decide) (by decide)
  rw[e]
  exact⟨j,zsT x z k,rfl,⟨Nat.le_trans hx hb,Nat.le_trans hz hb,Nat.zero_le _⟩,zja⟩
end
end Go.Proofs.Model
