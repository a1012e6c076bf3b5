/- The program's Parse: a form is read back, and the reader always comes to an end. -/
import Derived.Test.YtljnndccimlnlaaGreatDoorRs
set_option linter.unusedVariables false
set_option linter.unusedSimpArgs false
set_option linter.unusedSectionVars false
set_option maxRecDepth 100000
namespace Go.Proofs.Model
open Go Go.Gx Go.Mx Go.Sx
theorem zlr{n it:Int}{fl:UInt8}{uid sz:Int}{body:List UInt8}(h:body.length<=100000):Small (4,(n,([],(0,([],(it,(fl,(uid,(sz,body))))))))):=⟨Nat.zero_le _,Nat.zero_le _,h⟩
theorem zcn{k:Int}{t:List UInt8}(h:t.length<=100000):Small (zmN k t):=⟨Nat.zero_le _,h,Nat.zero_le _⟩
theorem zp3{n it:Int}{fl:UInt8}{uid sz:Int}{body:List UInt8}(hn:0<=n/\n<4294967296)(hu:0<=uid/\uid<4294967296)(hs:0<=sz/\sz<4294967296):Rng (4,(n,([],(0,([],(it,(fl,(uid,(sz,body))))))))):=⟨hn,hu,hs⟩
theorem z32:(0:Int)<=0/\(0:Int)<4294967296:=by decide
theorem zfK{k:Int}{t:List UInt8}:Rng (zmN k t):=⟨z32,z32,z32⟩
theorem zjJ{g t:List UInt8}{s:Int}:Rng (ztS g t s):=⟨z32,z32,z32⟩
theorem zfJ{k n:Int}(hn:0<=n/\n<4294967296):Rng (zj8 k n):=⟨hn,z32,z32⟩
theorem zcm{k n:Int}:Small (zj8 k n):=⟨Nat.zero_le _,Nat.zero_le _,Nat.zero_le _⟩
theorem zcJ{b:List UInt8}(j:Nat):Goo b (zro (b,(j:Int))):=⟨j,zxq,rfl,⟨Nat.zero_le _,Nat.zero_le _,Nat.zero_le _⟩,⟨z32,z32,z32⟩⟩
section
variable {b:List UInt8} (hb:b.length<=100000) {p1:Int} (hp:0<=p1/\p1<4294967296)
include hb hp
theorem zpQ(j:Nat)(it:Int)(fl:UInt8){uid sz:Int}{body:List UInt8}(hu:0<=uid/\uid<4294967296)(hs:0<=sz/\sz<4294967296)(h:body.length<=100000):Goo b (zob p1 (b,(j:Int)) it fl uid sz body):=⟨j,_,rfl,zlr h,zp3 hp hu hs⟩
theorem zo3{it:Int}{fl:UInt8}{uid sz:Int}(hu:0<=uid/\uid<4294967296)(hs:0<=sz/\sz<4294967296){i:Nat}(hi:i<=b.length):Goo b (f16 200000 p1 it fl uid sz (b,(i:Int))):=by
 unfold f16
 refine zrp hb (by decide) hi (fun j hj=>zpQ hb hp j it fl hu hs (Nat.zero_le _)) (fun j hj=>?_) (fun _=>by simp)
 obtain⟨x,n,ok,e,h1,h2⟩:=zu5 hb hj
 rw[e]
 cases ok with
 |true=>exact zpQ hb hp n _ fl hu hs (Nat.le_trans h1 hb)
 |false=>exact zcJ j
theorem ztg{it:Int}{fl:UInt8}{uid:Int}(hu:0<=uid/\uid<4294967296){i:Nat}(hi:i<=b.length):Goo b (f4 200000 p1 it fl uid (b,(i:Int))):=by
 unfold f4
 refine zrp hb (by decide) hi (fun j hj=>zo3 hb hp hu z32 hj) (fun j hj=>?_) (fun _=>by simp)
 obtain⟨k,hk,n,ok,e,h1,h2⟩:=zhu 200000 hb (by omega) (by omega) hj
 rw[e]
 cases ok with
 |true=>exact zo3 hb hp hu ⟨h1,h2⟩ hk
 |false=>exact zcJ k
theorem ztf{it:Int}{fl:UInt8}{i:Nat}(hi:i<=b.length):Goo b (f2 200000 p1 it fl (b,(i:Int))):=by
 unfold f2
 refine zrp hb (by decide) hi (fun j hj=>ztg hb hp z32 hj) (fun j hj=>?_) (fun _=>by simp)
 obtain⟨k,hk,n,ok,e,h1,h2⟩:=zhu 200000 hb (by omega) (by omega) hj
 rw[e]
 cases ok with
 |true=>exact ztg hb hp ⟨h1,h2⟩ hk
 |false=>exact zcJ k
theorem zlS{i:Nat}(hi:i<=b.length):Goo b (zV 200000 (b,(i:Int)) p1):=by
 rw[zis]
 unfold f1
 refine zrp hb (by decide) hi (fun j hj=>ztf hb hp hj) (fun j hj=>?_) (fun h=>by cases h)
 obtain⟨k,hk,x,ok,e,hx,hx2⟩:=zdF 200000 hb hj (s:=[41]) (by decide) (by decide)
 rw[e]
 cases ok with
 |false=>exact zcJ k
 |true=>
  simp only[Option.bind_some,Bool.not_true,cond_false]
  rw[xL (by simp only[List.length_cons,List.length_nil];omega),cond_true]
  obtain⟨f,ok2,e2⟩:=zuf (x++[41]) (by have:=hx2 rfl;simp only[List.length_append,List.length_cons,List.length_nil] at this |-;omega)
  rw[e2]
  simp only[Option.bind_some]
  cases ok2 with
  |true=>exact ztf hb hp hk
  |false=>exact zcJ k
end
def zj6:List (List UInt8×Int):=[(([79,75,32]:List UInt8),(6:Int)),(([66,89,69,32]:List UInt8),(7:Int)),(([66,65,68,32]:List UInt8),(8:Int))]
def zj3:List (List UInt8):=[([]:List UInt8),([69,88,73,83,84,83]:List UInt8),([82,69,67,69,78,84]:List UInt8),([69,88,80,85,78,71,69]:List UInt8)]
abbrev R18:=Option (((List UInt8)×(Int)×(Int)×(List UInt8)×(UInt8)×(List ((List UInt8)×Int))) ⊕ ((List UInt8)×(Int)×(UInt8)×(List ((List UInt8)×Int))))
def zl7(k:Int)(s:RSt):R18:=Option.bind (zA 200000 s [13,10]) fun z=>some (Sum.inl (z.1.1,z.1.2,k,z.2.1,0,zj6))
theorem zuo(m:Nat)(b:List UInt8)(i:Int):zi 200000 (m+1) 0 b i 0 zj6=(Option.bind (za 200000 (b,i) [79,75,32]) fun y=>cond y.2.1 (zl7 6 y.1) (zi 200000 m 1 y.1.1 y.1.2 0 zj6)):=by kernel_rfl
theorem zrs(m:Nat)(b:List UInt8)(i:Int):zi 200000 (m+1) 1 b i 0 zj6=(Option.bind (za 200000 (b,i) [66,89,69,32]) fun y=>cond y.2.1 (zl7 7 y.1) (zi 200000 m 2 y.1.1 y.1.2 0 zj6)):=by kernel_rfl
theorem zup(m:Nat)(b:List UInt8)(i:Int):zi 200000 (m+1) 2 b i 0 zj6=(Option.bind (za 200000 (b,i) [66,65,68,32]) fun y=>cond y.2.1 (zl7 8 y.1) (zi 200000 m 3 y.1.1 y.1.2 0 zj6)):=by kernel_rfl
theorem zwg(m:Nat)(b:List UInt8)(i:Int):zi 200000 (m+1) 3 b i 0 zj6=some (Sum.inr (b,i,0,zj6)):=by kernel_rfl
theorem zuq(m:Nat)(n:Int)(b:List UInt8)(i:Int):ze 200000 (m+1) n 0 b i 0 zj3=ze 200000 m n 1 b i 0 zj3:=by kernel_rfl
theorem zur(m:Nat)(n:Int)(b:List UInt8)(i:Int):ze 200000 (m+1) n 1 b i 0 zj3=(Option.bind (za 200000 (b,i) [69,88,73,83,84,83]) fun y=>cond y.2.1 (some (Sum.inl (y.1.1,y.1.2,1,n,0,zj3))) (ze 200000 m n 2 y.1.1 y.1.2 0 zj3)):=by kernel_rfl
theorem zrt(m:Nat)(n:Int)(b:List UInt8)(i:Int):ze 200000 (m+1) n 2 b i 0 zj3=(Option.bind (za 200000 (b,i) [82,69,67,69,78,84]) fun y=>cond y.2.1 (some (Sum.inl (y.1.1,y.1.2,2,n,0,zj3))) (ze 200000 m n 3 y.1.1 y.1.2 0 zj3)):=by kernel_rfl
theorem zus(m:Nat)(n:Int)(b:List UInt8)(i:Int):ze 200000 (m+1) n 3 b i 0 zj3=(Option.bind (za 200000 (b,i) [69,88,80,85,78,71,69]) fun y=>cond y.2.1 (some (Sum.inl (y.1.1,y.1.2,3,n,0,zj3))) (ze 200000 m n 4 y.1.1 y.1.2 0 zj3)):=by kernel_rfl
theorem zwi(m:Nat)(n:Int)(b:List UInt8)(i:Int):ze 200000 (m+1) n 4 b i 0 zj3=some (Sum.inr (n,b,i,0,zj3)):=by kernel_rfl
theorem zcI(s:RSt):zB 200000 s=Option.bind (zi 200000 200000 0 s.1 s.2 0 zj6) fun o=>zn o (fun a=>some ((a.1,a.2.1),(a.2.2.1,(0,([],(0,(a.2.2.2.1,(0,(a.2.2.2.2.1,(0,(0,[]))))))))),())) (fun c=>Option.bind (za 200000 (c.1,c.2.1) [70,76,65,71,83,32]) fun y28=>cond y28.2.1 (some (y28.1,zj8 5 0,())) (Option.bind (zr 200000 y28.1) fun y29=>cond (!y29.2.2.1) (zro y29.1) (Option.bind (za 200000 y29.1 [32]) fun y30=>cond (!y30.2.1) (zro y30.1)
 (Option.bind (ze 200000 200000 y29.2.1 0 y30.1.1 y30.1.2 c.2.2.1 zj3) fun o=>zn o (fun a=>some ((a.1,a.2.1),(a.2.2.1,(a.2.2.2.1,([],(0,([],(0,(a.2.2.2.2.1,(0,(0,[]))))))))),())) (fun c=>Option.bind (za 200000 (c.2.1,c.2.2.1) [70,69,84,67,72,32,40]) fun y=>cond y.2.1 (Option.bind (zV 200000 y.1 c.1) fun z=>some (z.1,z.2.1,())) (zro y.1)))))):=by kernel_rfl
section
variable {b:List UInt8} (hb:b.length<=100000)
include hb
theorem zjo(k:Int){i:Nat}(hi:i<=b.length):∃ (j:Nat) (x:List UInt8),j<=b.length/\x.length<=100000/\zl7 k (b,(i:Int))=some (Sum.inl (b,(j:Int),k,x,0,zj6)):=by
 unfold zl7
 obtain⟨j,hj,x,ok,e,hx,_⟩:=zdF 200000 hb hi (s:=[13,10]) (by decide) (by decide)
 rw[e]
 exact⟨j,x,hj,Nat.le_trans hx hb,rfl⟩
theorem zwh{i:Nat}(hi:i<=b.length):(∃ (j:Nat) (k:Int) (x:List UInt8),x.length<=100000/\zi 200000 200000 0 b (i:Int) 0 zj6=some (Sum.inl (b,(j:Int),k,x,0,zj6)))\/∃ j:Nat,j<=b.length/\zi 200000 200000 0 b (i:Int) 0 zj6=some (Sum.inr (b,(j:Int),0,zj6)):=by
 rw[show(200000:Nat)=199999+1 from rfl,show(199999+1:Nat)=200000 from rfl]
 have e0:=zuo 199999 b i
 rw[show(199999+1:Nat)=200000 from rfl] at e0
 rw[e0]
 obtain⟨j,hj,ok,e⟩:=zaM 200000 hb hi [79,75,32] (by decide)
 rw[e]
 cases ok with
 |true=>obtain⟨k,x,hk,hx,e⟩:=zjo hb 6 hj;exact .inl ⟨k,6,x,hx,e⟩
 |false=>
  simp only[Option.bind_some,cond_false]
  rw[show(199999:Nat)=199998+1 from rfl,zrs]
  obtain⟨j,hj,ok,e⟩:=zaM 200000 hb hj [66,89,69,32] (by decide)
  rw[e]
  cases ok with
  |true=>obtain⟨k,x,hk,hx,e⟩:=zjo hb 7 hj;exact .inl ⟨k,7,x,hx,e⟩
  |false=>
   simp only[Option.bind_some,cond_false]
   rw[show(199998:Nat)=199997+1 from rfl,zup]
   obtain⟨j,hj,ok,e⟩:=zaM 200000 hb hj [66,65,68,32] (by decide)
   rw[e]
   cases ok with
   |true=>obtain⟨k,x,hk,hx,e⟩:=zjo hb 8 hj;exact .inl ⟨k,8,x,hx,e⟩
   |false=>
    simp only[Option.bind_some,cond_false]
    rw[show(199997:Nat)=199996+1 from rfl,zwg]
    exact .inr ⟨j,hj,rfl⟩
end
end Go.Proofs.Model
