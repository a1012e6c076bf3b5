/- The program's Parse: a form is read back, and the reader always comes to an end. -/
import Derived.Test.YtokiphiakdfipaaGreatDoorRs
set_option linter.unusedVariables false
set_option linter.unusedSimpArgs false
set_option linter.unusedSectionVars false
set_option maxRecDepth 100000
namespace Go.Proofs.Model
open Go Go.Gx Go.Mx Go.Sx
theorem zkM{n it:Int}{fl:UInt8}{uid sz:Int}{body:List UInt8}(h:body.length<=100000):Small (4,(n,([],(0,([],(it,(fl,(uid,(sz,body))))))))):=⟨Nat.zero_le _,Nat.zero_le _,h⟩
theorem zbO{k:Int}{t:List UInt8}(h:t.length<=100000):Small (zma k t):=⟨Nat.zero_le _,h,Nat.zero_le _⟩
theorem zpv{n it:Int}{fl:UInt8}{uid sz:Int}{body:List UInt8}(hn:0<=n/\n<4294967296)(hu:0<=uid/\uid<4294967296)(hs:0<=sz/\sz<4294967296):Rng (4,(n,([],(0,([],(it,(fl,(uid,(sz,body))))))))):=⟨hn,hu,hs⟩
theorem z32:(0:Int)<=0/\(0:Int)<4294967296:=by decide
theorem zfk{k:Int}{t:List UInt8}:Rng (zma k t):=⟨z32,z32,z32⟩
theorem zja{g t:List UInt8}{s:Int}:Rng (zsT g t s):=⟨z32,z32,z32⟩
theorem zfj{k n:Int}(hn:0<=n/\n<4294967296):Rng (zjy k n):=⟨hn,z32,z32⟩
theorem zbN{k n:Int}:Small (zjy k n):=⟨Nat.zero_le _,Nat.zero_le _,Nat.zero_le _⟩
theorem zca{b:List UInt8}(j:Nat):Goo b (zro (b,(j:Int))):=⟨j,zwo,rfl,⟨Nat.zero_le _,Nat.zero_le _,Nat.zero_le _⟩,⟨z32,z32,z32⟩⟩
section
variable {b:List UInt8} (hb:b.length<=100000) {p1:Int} (hp:0<=p1/\p1<4294967296)
include hb hp
theorem zpj(j:Nat)(it:Int)(fl:UInt8){uid sz:Int}{body:List UInt8}(hu:0<=uid/\uid<4294967296)(hs:0<=sz/\sz<4294967296)(h:body.length<=100000):Goo b (znz p1 (b,(j:Int)) it fl uid sz body):=⟨j,_,rfl,zkM h,zpv hp hu hs⟩
theorem zoy{it:Int}{fl:UInt8}{uid sz:Int}(hu:0<=uid/\uid<4294967296)(hs:0<=sz/\sz<4294967296){i:Nat}(hi:i<=b.length):Goo b (f16 200000 p1 it fl uid sz (b,(i:Int))):=by
 unfold f16
 refine zqW hb (by decide) hi (fun j hj=>zpj hb hp j it fl hu hs (Nat.zero_le _)) (fun j hj=>?_) (fun _=>by simp)
 obtain⟨x,n,ok,e,h1,h2⟩:=zuf hb hj
 rw[e]
 cases ok with
 |true=>exact zpj hb hp n _ fl hu hs (Nat.le_trans h1 hb)
 |false=>exact zca j
theorem zsi{it:Int}{fl:UInt8}{uid:Int}(hu:0<=uid/\uid<4294967296){i:Nat}(hi:i<=b.length):Goo b (f4 200000 p1 it fl uid (b,(i:Int))):=by
 unfold f4
 refine zqW hb (by decide) hi (fun j hj=>zoy hb hp hu z32 hj) (fun j hj=>?_) (fun _=>by simp)
 obtain⟨k,hk,n,ok,e,h1,h2⟩:=zgX 200000 hb (by omega) (by omega) hj
 rw[e]
 cases ok with
 |true=>exact zoy hb hp hu ⟨h1,h2⟩ hk
 |false=>exact zca k
theorem zsh{it:Int}{fl:UInt8}{i:Nat}(hi:i<=b.length):Goo b (f2 200000 p1 it fl (b,(i:Int))):=by
 unfold f2
 refine zqW hb (by decide) hi (fun j hj=>zsi hb hp z32 hj) (fun j hj=>?_) (fun _=>by simp)
 obtain⟨k,hk,n,ok,e,h1,h2⟩:=zgX 200000 hb (by omega) (by omega) hj
 rw[e]
 cases ok with
 |true=>exact zsi hb hp ⟨h1,h2⟩ hk
 |false=>exact zca k
theorem zlc{i:Nat}(hi:i<=b.length):Goo b (zI 200000 (b,(i:Int)) p1):=by
 rw[zhT]
 unfold f1
 refine zqW hb (by decide) hi (fun j hj=>zsh hb hp hj) (fun j hj=>?_) (fun h=>by cases h)
 obtain⟨k,hk,x,ok,e,hx,hx2⟩:=zc3 200000 hb hj (s:=[41]) (by decide) (by decide)
 rw[e]
 cases ok with
 |false=>exact zca k
 |true=>
  simp only[Option.bind_some,Bool.not_true,cond_false]
  rw[wI (by simp only[List.length_cons,List.length_nil];omega),cond_true]
  obtain⟨f,ok2,e2⟩:=ztg (x++[41]) (by have:=hx2 rfl;simp only[List.length_append,List.length_cons,List.length_nil] at this |-;omega)
  rw[e2]
  simp only[Option.bind_some]
  cases ok2 with
  |true=>exact zsh hb hp hk
  |false=>exact zca k
end
def zjw:List (List UInt8×Int):=[(([79,75,32]:List UInt8),(6:Int)),(([66,89,69,32]:List UInt8),(7:Int)),(([66,65,68,32]:List UInt8),(8:Int))]
def zju:List (List UInt8):=[([]:List UInt8),([69,88,73,83,84,83]:List UInt8),([82,69,67,69,78,84]:List UInt8),([69,88,80,85,78,71,69]:List UInt8)]
abbrev R18:=Option (((List UInt8)×(Int)×(Int)×(List UInt8)×(UInt8)×(List ((List UInt8)×Int))) ⊕ ((List UInt8)×(Int)×(UInt8)×(List ((List UInt8)×Int))))
def zls(k:Int)(s:RSt):R18:=Option.bind (zw 200000 s [13,10]) fun z=>some (Sum.inl (z.1.1,z.1.2,k,z.2.1,0,zjw))
theorem ztt(m:Nat)(b:List UInt8)(i:Int):zl 200000 (m+1) 0 b i 0 zjw=(Option.bind (za 200000 (b,i) [79,75,32]) fun y=>cond y.2.1 (zls 6 y.1) (zl 200000 m 1 y.1.1 y.1.2 0 zjw)):=by kernel_rfl
theorem zq0(m:Nat)(b:List UInt8)(i:Int):zl 200000 (m+1) 1 b i 0 zjw=(Option.bind (za 200000 (b,i) [66,89,69,32]) fun y=>cond y.2.1 (zls 7 y.1) (zl 200000 m 2 y.1.1 y.1.2 0 zjw)):=by kernel_rfl
theorem ztu(m:Nat)(b:List UInt8)(i:Int):zl 200000 (m+1) 2 b i 0 zjw=(Option.bind (za 200000 (b,i) [66,65,68,32]) fun y=>cond y.2.1 (zls 8 y.1) (zl 200000 m 3 y.1.1 y.1.2 0 zjw)):=by kernel_rfl
theorem zu4(m:Nat)(b:List UInt8)(i:Int):zl 200000 (m+1) 3 b i 0 zjw=some (Sum.inr (b,i,0,zjw)):=by kernel_rfl
theorem ztv(m:Nat)(n:Int)(b:List UInt8)(i:Int):zi 200000 (m+1) n 0 b i 0 zju=zi 200000 m n 1 b i 0 zju:=by kernel_rfl
theorem ztw(m:Nat)(n:Int)(b:List UInt8)(i:Int):zi 200000 (m+1) n 1 b i 0 zju=(Option.bind (za 200000 (b,i) [69,88,73,83,84,83]) fun y=>cond y.2.1 (some (Sum.inl (y.1.1,y.1.2,1,n,0,zju))) (zi 200000 m n 2 y.1.1 y.1.2 0 zju)):=by kernel_rfl
theorem zq1(m:Nat)(n:Int)(b:List UInt8)(i:Int):zi 200000 (m+1) n 2 b i 0 zju=(Option.bind (za 200000 (b,i) [82,69,67,69,78,84]) fun y=>cond y.2.1 (some (Sum.inl (y.1.1,y.1.2,2,n,0,zju))) (zi 200000 m n 3 y.1.1 y.1.2 0 zju)):=by kernel_rfl
theorem ztx(m:Nat)(n:Int)(b:List UInt8)(i:Int):zi 200000 (m+1) n 3 b i 0 zju=(Option.bind (za 200000 (b,i) [69,88,80,85,78,71,69]) fun y=>cond y.2.1 (some (Sum.inl (y.1.1,y.1.2,3,n,0,zju))) (zi 200000 m n 4 y.1.1 y.1.2 0 zju)):=by kernel_rfl
theorem zu6(m:Nat)(n:Int)(b:List UInt8)(i:Int):zi 200000 (m+1) n 4 b i 0 zju=some (Sum.inr (n,b,i,0,zju)):=by kernel_rfl
theorem zb9(s:RSt):zy 200000 s=Option.bind (zl 200000 200000 0 s.1 s.2 0 zjw) fun o=>zv o (fun a=>some ((a.1,a.2.1),(a.2.2.1,(0,([],(0,(a.2.2.2.1,(0,(a.2.2.2.2.1,(0,(0,[]))))))))),())) (fun c=>Option.bind (za 200000 (c.1,c.2.1) [70,76,65,71,83,32]) fun y28=>cond y28.2.1 (some (y28.1,zjy 5 0,())) (Option.bind (zn 200000 y28.1) fun y29=>cond (!y29.2.2.1) (zro y29.1) (Option.bind (za 200000 y29.1 [32]) fun y30=>cond (!y30.2.1) (zro y30.1)
 (Option.bind (zi 200000 200000 y29.2.1 0 y30.1.1 y30.1.2 c.2.2.1 zju) fun o=>zv o (fun a=>some ((a.1,a.2.1),(a.2.2.1,(a.2.2.2.1,([],(0,([],(0,(a.2.2.2.2.1,(0,(0,[]))))))))),())) (fun c=>Option.bind (za 200000 (c.2.1,c.2.2.1) [70,69,84,67,72,32,40]) fun y=>cond y.2.1 (Option.bind (zI 200000 y.1 c.1) fun z=>some (z.1,z.2.1,())) (zro y.1)))))):=by kernel_rfl
section
variable {b:List UInt8} (hb:b.length<=100000)
include hb
theorem ziQ(k:Int){i:Nat}(hi:i<=b.length):∃ (j:Nat) (x:List UInt8),j<=b.length/\x.length<=100000/\zls k (b,(i:Int))=some (Sum.inl (b,(j:Int),k,x,0,zjw)):=by
 unfold zls
 obtain⟨j,hj,x,ok,e,hx,_⟩:=zc3 200000 hb hi (s:=[13,10]) (by decide) (by decide)
 rw[e]
 exact⟨j,x,hj,Nat.le_trans hx hb,rfl⟩
theorem zu5{i:Nat}(hi:i<=b.length):(∃ (j:Nat) (k:Int) (x:List UInt8),x.length<=100000/\zl 200000 200000 0 b (i:Int) 0 zjw=some (Sum.inl (b,(j:Int),k,x,0,zjw)))\/∃ j:Nat,j<=b.length/\zl 200000 200000 0 b (i:Int) 0 zjw=some (Sum.inr (b,(j:Int),0,zjw)):=by
 rw[show(200000:Nat)=199999+1 from rfl,show(199999+1:Nat)=200000 from rfl]
 have e0:=ztt 199999 b i
 rw[show(199999+1:Nat)=200000 from rfl] at e0
 rw[e0]
 obtain⟨j,hj,ok,e⟩:=xE 200000 hb hi [79,75,32] (by decide)
 rw[e]
 cases ok with
 |true=>obtain⟨k,x,hk,hx,e⟩:=ziQ hb 6 hj;exact .inl ⟨k,6,x,hx,e⟩
 |false=>
  simp only[Option.bind_some,cond_false]
  rw[show(199999:Nat)=199998+1 from rfl,zq0]
  obtain⟨j,hj,ok,e⟩:=xE 200000 hb hj [66,89,69,32] (by decide)
  rw[e]
  cases ok with
  |true=>obtain⟨k,x,hk,hx,e⟩:=ziQ hb 7 hj;exact .inl ⟨k,7,x,hx,e⟩
  |false=>
   simp only[Option.bind_some,cond_false]
   rw[show(199998:Nat)=199997+1 from rfl,ztu]
   obtain⟨j,hj,ok,e⟩:=xE 200000 hb hj [66,65,68,32] (by decide)
   rw[e]
   cases ok with
   |true=>obtain⟨k,x,hk,hx,e⟩:=ziQ hb 8 hj;exact .inl ⟨k,8,x,hx,e⟩
   |false=>
    simp only[Option.bind_some,cond_false]
    rw[show(199997:Nat)=199996+1 from rfl,zu4]
    exact .inr ⟨j,hj,rfl⟩
end
end Go.Proofs.Model
