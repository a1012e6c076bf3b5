/- The program's Parse answers the response whose form stands there. -/
import Derived.Test.YtljnndccimlnlaaGreatDoorRu
set_option linter.unusedVariables false
set_option linter.unusedSimpArgs false
set_option linter.unusedSectionVars false
set_option maxRecDepth 100000
namespace Go.Proofs.Model
open Go Go.Gx Go.Mx Go.Sx
abbrev zyb:=Option (Rsp×Int×Bool×Unit)
def zes:zyb:=some (zxq,0,false,())
def zlV(b:List UInt8)(p:Int)(x:Rsp):zyb:=Option.bind (jt 200000 x) fun y=>cond (!y.2.1) zes (cond (zgv p b&&true) (Option.bind (zk 200000 (zgx b (Int.toNat p)) y.1) fun z=>cond (!z.1) zes (some (x,IntKind.wrap .i64 (p+((List.length y.1:Nat):Int)),true,()))) none)
theorem zcC(b:List UInt8)(p:Int):qg 200000 b p=cond (decide (p<0)) zes (cond (decide (((List.length b:Nat):Int)<=p)) zes (Option.bind (za 200000 (b,p) [42,32]) fun y1=>cond y1.2.1 (Option.bind (zB 200000 y1.1) fun y2=>zlV b p y2.2.1)
  (Option.bind (za 200000 y1.1 [43,32]) fun y5=>cond y5.2.1 (Option.bind (zA 200000 y5.1 [13,10]) fun y6=>zlV b p (zmN 10 y6.2.1)) (Option.bind (zY 200000 y5.1) fun y9=>zlV b p y9.2.1)))):=by kernel_rfl
structure PR(b:List UInt8)(i:Nat)(r:Rsp):Prop where
 v:VR r
 rg:Rng r
 sm:Small r
 st:∃ t,At b i (ju r++t)
section
variable {b:List UInt8} (hb:b.length<=100000) {i:Nat} (hi:i<=b.length)
include hb hi
theorem zv4{r:Rsp}(h:PR b i r):zlV b (i:Int) r=some (r,((i+(ju r).length:Nat):Int),true,()):=by
 obtain⟨t,ht⟩:=h.st
 have hl:=ht.len
 rw[List.length_append] at hl
 unfold zlV
 rw[(zcg r h.sm h.rg).1 h.v]
 simp only[Option.bind_some,Bool.not_true,cond_false,zfg hi,Bool.and_self,cond_true,Int.toNat_natCast,zdo,ht.dr,zfo,zrO]
 rw[wri (by omega) (by omega),Int.natCast_add]
end
theorem zfA:zeV 42=false/\zeV 43=false/\zeV 32=false:=by refine⟨?_,?_,?_⟩<;>kernel_rfl
theorem zgS:zbp 13=false:=by kernel_rfl
theorem zie{p:UInt8->Bool}{l:List UInt8}{c:UInt8}(h:l.all p=true)(hc:p c=false):∀ x ∈ l,x≠c:=fun x hx e=>by
 have:=List.all_eq_true.1 h x hx
 rw[e,hc] at this;cases this
theorem zm3(n:Nat):∃ c d,dec n=c::d/\zbx c=true:=by
 have h:=zvX n
 cases e:dec n with
 |nil=>rw[e] at h;cases h
 |cons c d=>exact⟨c,d,rfl,zfi 10 n c (by show c ∈ dec n;rw[e];exact List.mem_cons_self)⟩
theorem zje{a c:UInt8}{s r:List UInt8}(hc:zbx c=true)(ha:zbx a=false):pre (a::s) (c::r)=false:=zla (by rw[beq_eq_false_iff_ne];exact(ztd hc ha).symm)
section
variable {b:List UInt8} (hb:b.length<=100000)
include hb
theorem znh{i:Nat}{r:List UInt8}(h:At b i r)(h1:pre [79,75,32] r=false)(h2:pre [66,89,69,32] r=false)(h3:pre [66,65,68,32] r=false):zi 200000 200000 0 b (i:Int) 0 zj6=some (Sum.inr (b,(i:Int),0,zj6)):=by
 have e0:=zuo 199999 b i
 rw[show(199999+1:Nat)=200000 from rfl] at e0
 rw[e0,zaF 200000 hb h (by decide) h1]
 simp only[Option.bind_some,cond_false]
 rw[show(199999:Nat)=199998+1 from rfl,zrs,zaF 200000 hb h (by decide) h2]
 simp only[Option.bind_some,cond_false]
 rw[show(199998:Nat)=199997+1 from rfl,zup,zaF 200000 hb h (by decide) h3]
 simp only[Option.bind_some,cond_false]
 rw[show(199997:Nat)=199996+1 from rfl,zwg]
theorem zl8(k:Int){i:Nat}{x t:List UInt8}(h:At b i (x++[13,10]++t))(hx:∀ c ∈ x,c≠13):∃ j:Nat,zl7 k (b,(i:Int))=some (Sum.inl (b,(j:Int),k,x,0,zj6)):=by
 unfold zl7
 rw[zfR 200000 hb h (by decide) hx]
 exact⟨_,rfl⟩
theorem zx6{i:Nat}(k:Int)(w x t:List UInt8)(hk:(k=6/\w=[79,75,32])\/(k=7/\w=[66,89,69,32])\/(k=8/\w=[66,65,68,32]))(h:At b i (w++(x++[13,10]++t)))(hx:∀ c ∈ x,c≠13):∃ s,zB 200000 (b,(i:Int))=some (s,zmN k x,()):=by
 rw[zcI]
 have e0:=zuo 199999 b i
 rw[show(199999+1:Nat)=200000 from rfl] at e0
 rcases hk with⟨rfl,rfl⟩|⟨rfl,rfl⟩|⟨rfl,rfl⟩
 ·rw[e0,zcl 200000 hb h (by decide)]
  simp only[Option.bind_some,cond_true]
  obtain⟨j,e⟩:=zl8 hb 6 h.app hx
  rw[e];exact⟨_,rfl⟩
 ·rw[e0,zaF 200000 hb h (by decide) rfl]
  simp only[Option.bind_some,cond_false]
  rw[show(199999:Nat)=199998+1 from rfl,zrs,zcl 200000 hb h (by decide)]
  simp only[Option.bind_some,cond_true]
  obtain⟨j,e⟩:=zl8 hb 7 h.app hx
  rw[e];exact⟨_,rfl⟩
 ·rw[e0,zaF 200000 hb h (by decide) rfl]
  simp only[Option.bind_some,cond_false]
  rw[show(199999:Nat)=199998+1 from rfl,zrs,zaF 200000 hb h (by decide) rfl]
  simp only[Option.bind_some,cond_false]
  rw[show(199998:Nat)=199997+1 from rfl,zup,zcl 200000 hb h (by decide)]
  simp only[Option.bind_some,cond_true]
  obtain⟨j,e⟩:=zl8 hb 8 h.app hx
  rw[e];exact⟨_,rfl⟩
theorem zyS{i:Nat}{t:List UInt8}(h:At b i ([70,76,65,71,83,32]++t)):∃ s,zB 200000 (b,(i:Int))=some (s,zj8 5 0,()):=by
 rw[zcI,znh hb h rfl rfl rfl]
 simp only[Option.bind_some,zn]
 rw[zcl 200000 hb h (by decide)]
 exact⟨_,rfl⟩
theorem zyk{i n:Nat}{r:List UInt8}(hn:n<4294967296)(h:At b i (dec n++32::r)):zB 200000 (b,(i:Int)) =
  (Option.bind (ze 200000 200000 (n:Int) 0 b ((i+(dec n).length+1:Nat):Int) 0 zj3) fun o=>zn o (fun a=>some ((a.1,a.2.1),(a.2.2.1,(a.2.2.2.1,([],(0,([],(0,(a.2.2.2.2.1,(0,(0,[]))))))))),())) (fun c=>Option.bind (za 200000 (c.2.1,c.2.2.1) [70,69,84,67,72,32,40]) fun y=>cond y.2.1 (Option.bind (zV 200000 y.1 c.1) fun z=>some (z.1,z.2.1,())) (zro y.1))):=by
 obtain⟨c,d,e,hc⟩:=zm3 n
 have h':At b i (c::(d++32::r)):=by rw[e] at h;exact h
 rw[zcI,znh hb h' (zje hc (by decide)) (zje hc (by decide)) (zje hc (by decide))]
 simp only[Option.bind_some,zn]
 rw[zaF 200000 hb h' (by decide) (zje hc (by decide))]
 simp only[Option.bind_some,cond_false]
 rw[zjG 200000 hb (by omega) (by omega) hn h (by decide)]
 simp only[Option.bind_some,Bool.not_true,cond_false]
 rw[zcl 200000 hb (s:=[32]) (r:=r) h.app (by decide)]
 rfl
theorem zqU{i n:Nat}(k:Int){w t:List UInt8}(hk:(k=1/\w=[69,88,73,83,84,83])\/(k=2/\w=[82,69,67,69,78,84])\/(k=3/\w=[69,88,80,85,78,71,69]))(hn:n<4294967296)(h:At b i (dec n++32::(w++t))):∃ s,zB 200000 (b,(i:Int))=some (s,zj8 k n,()):=by
 rw[zyk hb hn h]
 have h2:At b (i+(dec n).length+1) (w++t):=At.app (s:=[32]) h.app
 generalize i+(dec n).length+1=j at h2
 have e0:=zuq 199999 (n:Int) b j
 rw[show(199999+1:Nat)=200000 from rfl] at e0
 rw[e0,show(199999:Nat)=199998+1 from rfl,zur]
 rcases hk with⟨rfl,rfl⟩|⟨rfl,rfl⟩|⟨rfl,rfl⟩
 ·rw[zcl 200000 hb h2 (by decide)];exact⟨_,rfl⟩
 ·rw[zaF 200000 hb h2 (by decide) rfl]
  simp only[Option.bind_some,cond_false]
  rw[show(199998:Nat)=199997+1 from rfl,zrt,zcl 200000 hb h2 (by decide)];exact⟨_,rfl⟩
 ·rw[zaF 200000 hb h2 (by decide) rfl]
  simp only[Option.bind_some,cond_false]
  rw[show(199998:Nat)=199997+1 from rfl,zrt,zaF 200000 hb h2 (by decide) rfl]
  simp only[Option.bind_some,cond_false]
  rw[show(199997:Nat)=199996+1 from rfl,zus,zcl 200000 hb h2 (by decide)];exact⟨_,rfl⟩
theorem zxk{i n:Nat}{t:List UInt8}(hn:n<4294967296)(h:At b i (dec n++32::([70,69,84,67,72,32,40]++t))):zB 200000 (b,(i:Int))=(Option.bind (zV 200000 (b,((i+(dec n).length+1+7:Nat):Int)) n) fun z=>some (z.1,z.2.1,())):=by
 rw[zyk hb hn h]
 have h2:At b (i+(dec n).length+1) ([70,69,84,67,72,32,40]++t):=At.app (s:=[32]) h.app
 generalize i+(dec n).length+1=j at h2
 have e0:=zuq 199999 (n:Int) b j
 rw[show(199999+1:Nat)=200000 from rfl] at e0
 rw[e0,show(199999:Nat)=199998+1 from rfl,zur,zaF 200000 hb h2 (by decide) rfl]
 simp only[Option.bind_some,cond_false]
 rw[show(199998:Nat)=199997+1 from rfl,zrt,zaF 200000 hb h2 (by decide) rfl]
 simp only[Option.bind_some,cond_false]
 rw[show(199997:Nat)=199996+1 from rfl,zus,zaF 200000 hb h2 (by decide) rfl]
 simp only[Option.bind_some,cond_false]
 rw[show(199996:Nat)=199995+1 from rfl,zwi]
 simp only[Option.bind_some,zn]
 rw[zcl 200000 hb h2 (by decide)]
 rfl
end
end Go.Proofs.Model
