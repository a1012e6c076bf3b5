/- The reference's guess. -/
import Derived.Test.YtokiphiakdfipaaGreatDoorSb
set_option linter.unusedVariables false
set_option linter.unusedSimpArgs false
set_option linter.unusedSectionVars false
set_option maxRecDepth 100000
namespace Go.Proofs.Model
open Go Go.Gx Go.Mx Go.Sx
abbrev zwq:=Option (Rsp×Unit)
def zG:zwq:=some (zwo,())
def zwY(e y2:List UInt8)(p3:Int)(y3:List UInt8):zwq:=Option.bind (jm 200000 y2) fun y25=>cond (!y25.2.1) zG (cond (y3==([69,88,73,83,84,83]:List UInt8)) (some (zjy 1 y25.1,())) (cond (y3==([82,69,67,69,78,84]:List UInt8)) (some (zjy 2 y25.1,())) (cond (y3==([69,88,80,85,78,71,69]:List UInt8)) (some (zjy 3 y25.1,()))
 (Option.bind (zq 200000 e p3 [70,69,84,67,72,32,40]) fun y26=>cond y26.1 (Option.bind (qy 200000 e (IntKind.wrap .i64 (p3+7)) (4,(y25.1,([],(0,([],(0,(0,(0,(0,[])))))))))) fun y27=>some (y27.1,())) zG))))
def gR(e y1 y2:List UInt8)(p3:Int)(y3 y4:List UInt8):zwq:=cond (y1==([43]:List UInt8)) (some (zma 10 y4,())) (cond (y1 != ([42]:List UInt8)) (Option.bind (qO 200000 200000 y1 y2 y3 0 0) fun o=>zv o (fun a=>some ((9,(0,(a.1,(a.2.1,(a.2.2.1,(0,(a.2.2.2,(0,(0,[]))))))))),())) (fun _=>zG))
 (cond (y2==([70,76,65,71,83]:List UInt8)) (some (zjy 5 0,())) (cond (y2==([79,75]:List UInt8)) (some (zma 6 y3,())) (cond (y2==([66,89,69]:List UInt8)) (some (zma 7 y3,())) (cond (y2==([66,65,68]:List UInt8)) (some (zma 8 y3,())) (zwY e y2 p3 y3))))))
theorem zsn(g y x:List UInt8):qO 200000 200000 g y x 0 0=cond (y==([79,75]:List UInt8)) (some (Sum.inl (g,0,x,0))) (cond (y==([78,79]:List UInt8)) (some (Sum.inl (g,1,x,0))) (cond (y==([66,65,68]:List UInt8)) (some (Sum.inl (g,2,x,0))) (some (Sum.inr 0)))):=by kernel_rfl
theorem zgi(e:List UInt8):ja 200000 e=Option.bind (jb 200000 e 0) fun y1=>Option.bind (jb 200000 e y1.2.1) fun y2=>Option.bind (qz 200000 e y2.2.1) fun y3=>Option.bind (qz 200000 e y1.2.1) fun y4=>gR e y1.1 y2.1 y2.2.1 y3.1 y4.1:=by kernel_rfl
def GG(o:zwq):Prop:=∃ r,o=some (r,())/\Small r/\Rng r
theorem zwM:GG zG:=⟨zwo,rfl,⟨Nat.zero_le _,Nat.zero_le _,Nat.zero_le _⟩,⟨z32,z32,z32⟩⟩
section
variable {e:List UInt8} (he:e.length<=100000)
include he
theorem zqV:GG (ja 200000 e):=by
 rw[zgi]
 obtain⟨g,n1,e1,l1,k1⟩:=zmb he (Nat.zero_le _)
 rw[show((0:Nat):Int)=0 from rfl] at e1
 rw[e1]
 simp only[Option.bind_some]
 obtain⟨w,n2,e2,l2,k2⟩:=zmb he k1
 rw[e2]
 simp only[Option.bind_some]
 obtain⟨x,n3,e3,l3,-⟩:=zdy he k2
 rw[e3]
 simp only[Option.bind_some]
 obtain⟨y,n4,e4,l4,-⟩:=zdy he k1
 rw[e4]
 simp only[Option.bind_some]
 unfold gR
 cases g==([43]:List UInt8) with
 |true=>exact⟨_,rfl,zbO (by omega),zfk⟩
 |false=>
  simp only[cond_false]
  cases g != ([42]:List UInt8) with
  |true=>
   simp only[cond_true]
   rw[zsn]
   have st:∀ s:Int,Small (9,(0,(g,(s,(x,(0,(0,(0,(0,[]))))))))):=fun s=>⟨by show g.length<=100000;omega,by show x.length<=100000;omega,Nat.zero_le _⟩
   cases w==([79,75]:List UInt8) with
   |true=>exact⟨_,rfl,st 0,zja⟩
   |false=>
    cases w==([78,79]:List UInt8) with
    |true=>exact⟨_,rfl,st 1,zja⟩
    |false=>
     cases w==([66,65,68]:List UInt8) with
     |true=>exact⟨_,rfl,st 2,zja⟩
     |false=>exact zwM
  |false=>
   simp only[cond_false]
   cases w==([70,76,65,71,83]:List UInt8) with
   |true=>exact⟨_,rfl,zbN,zfj z32⟩
   |false=>
    simp only[cond_false]
    cases w==([79,75]:List UInt8) with
    |true=>exact⟨_,rfl,zbO (by omega),zfk⟩
    |false=>
     simp only[cond_false]
     cases w==([66,89,69]:List UInt8) with
     |true=>exact⟨_,rfl,zbO (by omega),zfk⟩
     |false=>
      simp only[cond_false]
      cases w==([66,65,68]:List UInt8) with
      |true=>exact⟨_,rfl,zbO (by omega),zfk⟩
      |false=>
       simp only[cond_false]
       unfold zwY
       rw[zgW 200000 (by omega)]
       unfold zn3
       cases hv:zgU w with
       |none=>exact zwM
       |some v=>
        have hv':=zgV hv
        have hr:(0:Int)<=(v:Int)/\(v:Int)<4294967296:=⟨by omega,by omega⟩
        simp only[Option.bind_some,Bool.not_true,cond_false]
        cases x==([69,88,73,83,84,83]:List UInt8) with
        |true=>exact⟨_,rfl,zbN,zfj hr⟩
        |false=>
         simp only[cond_false]
         cases x==([82,69,67,69,78,84]:List UInt8) with
         |true=>exact⟨_,rfl,zbN,zfj hr⟩
         |false=>
          simp only[cond_false]
          cases x==([69,88,80,85,78,71,69]:List UInt8) with
          |true=>exact⟨_,rfl,zbN,zfj hr⟩
          |false=>
           simp only[cond_false]
           rw[zb8 he 200000 k2 _ (by decide)]
           simp only[Option.bind_some]
           cases hp:pre [70,69,84,67,72,32,40] (e.drop n2) with
           |false=>exact zwM
           |true=>
            have hl:=zg1 k2 hp
            simp only[List.length_cons,List.length_nil] at hl
            simp only[cond_true]
            rw[wri (by omega) (by omega),show((n2:Int)+7)=((n2+7:Nat):Int) by omega]
            obtain⟨r,er,h1,h2⟩:=ztZ he (v:Int) hr (a:=n2+7) (by omega)
            rw[er]
            exact⟨r,rfl,h1,h2⟩
theorem zbA{w r:List UInt8}(h:At e 0 (42::32::(w++32::r)))(hw:∀ c ∈ w,c≠32):∃ x n,qz 200000 e ((2+w.length+1:Nat):Int)=some (x,n,())/\ja 200000 e=gR e [42] w ((2+w.length+1:Nat):Int) x []:=by
 have h1:At e 0 ([42]++32::(w++32::r)):=h
 have h2:At e 2 (w++32::r):=At.app (s:=[42,32]) h
 have h3:At e (2+w.length+1) r:=At.app (s:=[32]) h2.app
 obtain⟨x,n3,e3,l3,-⟩:=zdy he h3.le
 obtain⟨y,n4,e4,l4,-⟩:=zdy he h2.le
 refine⟨x,n3,e3,?_⟩
 rw[zgi]
 have e1:=zk0 he h1 (by decide)
 rw[show((0:Nat):Int)=0 from rfl,show((0+([42]:List UInt8).length+1:Nat):Int)=((2:Nat):Int) from rfl] at e1
 rw[e1]
 simp only[Option.bind_some]
 rw[zk0 he h2 hw]
 simp only[Option.bind_some]
 rw[e3]
 simp only[Option.bind_some]
 rw[e4]
 rfl
theorem zms(m:Nat){c:UInt8}{s:List UInt8}(hc:zaM c=false):(dec m==c::s)=false:=by
 obtain⟨a,d,e1,h1⟩:=zmr m
 rw[e1,beq_eq_false_iff_ne]
 intro h
 cases h
 rw[hc] at h1;cases h1
theorem zuO(m:Nat):∀ c ∈ dec m,c≠32:=fun c hc h=>by
 subst h
 have:=zeS _ m 32 hc
 cases this
end
end Go.Proofs.Model
