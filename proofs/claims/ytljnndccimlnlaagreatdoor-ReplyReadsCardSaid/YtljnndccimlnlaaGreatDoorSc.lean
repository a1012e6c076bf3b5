/- The reference's guess. -/
import Derived.Test.YtljnndccimlnlaaGreatDoorSb
set_option linter.unusedVariables false
set_option linter.unusedSimpArgs false
set_option linter.unusedSectionVars false
set_option maxRecDepth 100000
namespace Go.Proofs.Model
open Go Go.Gx Go.Mx Go.Sx
abbrev zxs:=Option (Rsp×Unit)
def zG:zxs:=some (zxq,())
def zxT(e y2:List UInt8)(p3:Int)(y3:List UInt8):zxs:=Option.bind (jL 200000 y2) fun y25=>cond (!y25.2.1) zG (cond (y3==([69,88,73,83,84,83]:List UInt8)) (some (zj8 1 y25.1,())) (cond (y3==([82,69,67,69,78,84]:List UInt8)) (some (zj8 2 y25.1,())) (cond (y3==([69,88,80,85,78,71,69]:List UInt8)) (some (zj8 3 y25.1,()))
 (Option.bind (zt 200000 e p3 [70,69,84,67,72,32,40]) fun y26=>cond y26.1 (Option.bind (jf 200000 e (IntKind.wrap .i64 (p3+7)) (4,(y25.1,([],(0,([],(0,(0,(0,(0,[])))))))))) fun y27=>some (y27.1,())) zG))))
def gR(e y1 y2:List UInt8)(p3:Int)(y3 y4:List UInt8):zxs:=cond (y1==([43]:List UInt8)) (some (zmN 10 y4,())) (cond (y1 != ([42]:List UInt8)) (Option.bind (qB 200000 200000 y1 y2 y3 0 0) fun o=>zn o (fun a=>some ((9,(0,(a.1,(a.2.1,(a.2.2.1,(0,(a.2.2.2,(0,(0,[]))))))))),())) (fun _=>zG))
 (cond (y2==([70,76,65,71,83]:List UInt8)) (some (zj8 5 0,())) (cond (y2==([79,75]:List UInt8)) (some (zmN 6 y3,())) (cond (y2==([66,89,69]:List UInt8)) (some (zmN 7 y3,())) (cond (y2==([66,65,68]:List UInt8)) (some (zmN 8 y3,())) (zxT e y2 p3 y3))))))
theorem ztm(g y x:List UInt8):qB 200000 200000 g y x 0 0=cond (y==([79,75]:List UInt8)) (some (Sum.inl (g,0,x,0))) (cond (y==([78,79]:List UInt8)) (some (Sum.inl (g,1,x,0))) (cond (y==([66,65,68]:List UInt8)) (some (Sum.inl (g,2,x,0))) (some (Sum.inr 0)))):=by kernel_rfl
theorem zgL(e:List UInt8):jM 200000 e=Option.bind (jU 200000 e 0) fun y1=>Option.bind (jU 200000 e y1.2.1) fun y2=>Option.bind (jq 200000 e y2.2.1) fun y3=>Option.bind (jq 200000 e y1.2.1) fun y4=>gR e y1.1 y2.1 y2.2.1 y3.1 y4.1:=by kernel_rfl
def GG(o:zxs):Prop:=∃ r,o=some (r,())/\Small r/\Rng r
theorem zxN:GG zG:=⟨zxq,rfl,⟨Nat.zero_le _,Nat.zero_le _,Nat.zero_le _⟩,⟨z32,z32,z32⟩⟩
section
variable {e:List UInt8} (he:e.length<=100000)
include he
theorem zrn:GG (jM 200000 e):=by
 rw[zgL]
 obtain⟨g,n1,e1,l1,k1⟩:=zmO he (Nat.zero_le _)
 rw[show((0:Nat):Int)=0 from rfl] at e1
 rw[e1]
 simp only[Option.bind_some]
 obtain⟨w,n2,e2,l2,k2⟩:=zmO he k1
 rw[e2]
 simp only[Option.bind_some]
 obtain⟨x,n3,e3,l3,-⟩:=zd4 he k2
 rw[e3]
 simp only[Option.bind_some]
 obtain⟨y,n4,e4,l4,-⟩:=zd4 he k1
 rw[e4]
 simp only[Option.bind_some]
 unfold gR
 cases g==([43]:List UInt8) with
 |true=>exact⟨_,rfl,zcn (by omega),zfK⟩
 |false=>
  simp only[cond_false]
  cases g != ([42]:List UInt8) with
  |true=>
   simp only[cond_true]
   rw[ztm]
   have st:∀ s:Int,Small (9,(0,(g,(s,(x,(0,(0,(0,(0,[]))))))))):=fun s=>⟨by show g.length<=100000;omega,by show x.length<=100000;omega,Nat.zero_le _⟩
   cases w==([79,75]:List UInt8) with
   |true=>exact⟨_,rfl,st 0,zjJ⟩
   |false=>
    cases w==([78,79]:List UInt8) with
    |true=>exact⟨_,rfl,st 1,zjJ⟩
    |false=>
     cases w==([66,65,68]:List UInt8) with
     |true=>exact⟨_,rfl,st 2,zjJ⟩
     |false=>exact zxN
  |false=>
   simp only[cond_false]
   cases w==([70,76,65,71,83]:List UInt8) with
   |true=>exact⟨_,rfl,zcm,zfJ z32⟩
   |false=>
    simp only[cond_false]
    cases w==([79,75]:List UInt8) with
    |true=>exact⟨_,rfl,zcn (by omega),zfK⟩
    |false=>
     simp only[cond_false]
     cases w==([66,89,69]:List UInt8) with
     |true=>exact⟨_,rfl,zcn (by omega),zfK⟩
     |false=>
      simp only[cond_false]
      cases w==([66,65,68]:List UInt8) with
      |true=>exact⟨_,rfl,zcn (by omega),zfK⟩
      |false=>
       simp only[cond_false]
       unfold zxT
       rw[zht 200000 (by omega)]
       unfold zoA
       cases hv:zhr w with
       |none=>exact zxN
       |some v=>
        have hv':=zhs hv
        have hr:(0:Int)<=(v:Int)/\(v:Int)<4294967296:=⟨by omega,by omega⟩
        simp only[Option.bind_some,Bool.not_true,cond_false]
        cases x==([69,88,73,83,84,83]:List UInt8) with
        |true=>exact⟨_,rfl,zcm,zfJ hr⟩
        |false=>
         simp only[cond_false]
         cases x==([82,69,67,69,78,84]:List UInt8) with
         |true=>exact⟨_,rfl,zcm,zfJ hr⟩
         |false=>
          simp only[cond_false]
          cases x==([69,88,80,85,78,71,69]:List UInt8) with
          |true=>exact⟨_,rfl,zcm,zfJ hr⟩
          |false=>
           simp only[cond_false]
           rw[zcH he 200000 k2 _ (by decide)]
           simp only[Option.bind_some]
           cases hp:pre [70,69,84,67,72,32,40] (e.drop n2) with
           |false=>exact zxN
           |true=>
            have hl:=zhy k2 hp
            simp only[List.length_cons,List.length_nil] at hl
            simp only[cond_true]
            rw[wri (by omega) (by omega),show((n2:Int)+7)=((n2+7:Nat):Int) by omega]
            obtain⟨r,er,h1,h2⟩:=zuQ he (v:Int) hr (a:=n2+7) (by omega)
            rw[er]
            exact⟨r,rfl,h1,h2⟩
theorem zb7{w r:List UInt8}(h:At e 0 (42::32::(w++32::r)))(hw:∀ c ∈ w,c≠32):∃ x n,jq 200000 e ((2+w.length+1:Nat):Int)=some (x,n,())/\jM 200000 e=gR e [42] w ((2+w.length+1:Nat):Int) x []:=by
 have h1:At e 0 ([42]++32::(w++32::r)):=h
 have h2:At e 2 (w++32::r):=At.app (s:=[42,32]) h
 have h3:At e (2+w.length+1) r:=At.app (s:=[32]) h2.app
 obtain⟨x,n3,e3,l3,-⟩:=zd4 he h3.le
 obtain⟨y,n4,e4,l4,-⟩:=zd4 he h2.le
 refine⟨x,n3,e3,?_⟩
 rw[zgL]
 have e1:=zlG he h1 (by decide)
 rw[show((0:Nat):Int)=0 from rfl,show((0+([42]:List UInt8).length+1:Nat):Int)=((2:Nat):Int) from rfl] at e1
 rw[e1]
 simp only[Option.bind_some]
 rw[zlG he h2 hw]
 simp only[Option.bind_some]
 rw[e3]
 simp only[Option.bind_some]
 rw[e4]
 rfl
theorem zm4(m:Nat){c:UInt8}{s:List UInt8}(hc:zbx c=false):(dec m==c::s)=false:=by
 obtain⟨a,d,e1,h1⟩:=zm3 m
 rw[e1,beq_eq_false_iff_ne]
 intro h
 cases h
 rw[hc] at h1;cases h1
theorem zvY(m:Nat):∀ c ∈ dec m,c≠32:=fun c hc h=>by
 subst h
 have:=zfi _ m 32 hc
 cases this
end
end Go.Proofs.Model
