/- The program's Parse answers the response whose form stands there. -/
import Derived.Test.YtokiphiakdfipaaGreatDoorRu
set_option linter.unusedVariables false
set_option linter.unusedSimpArgs false
set_option linter.unusedSectionVars false
set_option maxRecDepth 100000
namespace Go.Proofs.Model
open Go Go.Gx Go.Mx Go.Sx
abbrev zxn:=Option (Rsp×Int×Bool×Unit)
def zeU:zxn:=some (zwo,0,false,())
def zlf(b:List UInt8)(p:Int)(x:Rsp):zxn:=Option.bind (jc 200000 x) fun y=>cond (!y.2.1) zeU (cond (zf3 p b&&true) (Option.bind (zj 200000 (zf5 b (Int.toNat p)) y.1) fun z=>cond (!z.1) zeU (some (x,IntKind.wrap .i64 (p+((List.length y.1:Nat):Int)),true,()))) none)
theorem zcX(b:List UInt8)(p:Int):zW 200000 b p=cond (decide (p<0)) zeU (cond (decide (((List.length b:Nat):Int)<=p)) zeU (Option.bind (za 200000 (b,p) [42,32]) fun y1=>cond y1.2.1 (Option.bind (zy 200000 y1.1) fun y2=>zlf b p y2.2.1)
  (Option.bind (za 200000 y1.1 [43,32]) fun y5=>cond y5.2.1 (Option.bind (zw 200000 y5.1 [13,10]) fun y6=>zlf b p (zma 10 y6.2.1)) (Option.bind (zL 200000 y5.1) fun y9=>zlf b p y9.2.1)))):=by kernel_rfl
structure PR(b:List UInt8)(i:Nat)(r:Rsp):Prop where
 v:VR r
 rg:Rng r
 sm:Small r
 st:∃ t,At b i (qq r++t)
section
variable {b:List UInt8} (hb:b.length<=100000) {i:Nat} (hi:i<=b.length)
include hb hi
theorem zuU{r:Rsp}(h:PR b i r):zlf b (i:Int) r=some (r,((i+(qq r).length:Nat):Int),true,()):=by
 obtain⟨t,ht⟩:=h.st
 have hl:=ht.len
 rw[List.length_append] at hl
 unfold zlf
 rw[(zfe r h.sm h.rg).1 h.v]
 simp only[Option.bind_some,Bool.not_true,cond_false,zeR hi,Bool.and_self,cond_true,Int.toNat_natCast,zcM,ht.dr,zeY,zrq]
 rw[wri (by omega) (by omega),Int.natCast_add]
theorem zwK(r:Rsp)(hs:Small r)(hr:Rng r):(PR b i r/\zlf b (i:Int) r=some (r,((i+(qq r).length:Nat):Int),true,()))\/zlf b (i:Int) r=zeU:=by
 by_cases hv:VR r
 ·by_cases hp:pre (qq r) (b.drop i)=true
  ·obtain⟨t,ht⟩:=zb4.1 hp
   have h:PR b i r:=⟨hv,hr,hs,t,hi,ht⟩
   exact .inl ⟨h,zuU hb hi h⟩
  ·right
   have hp:pre (qq r) (b.drop i)=false:=by simpa using hp
   unfold zlf
   rw[(zfe r hs hr).1 hv]
   simp only[Option.bind_some,Bool.not_true,cond_false,zeR hi,Bool.and_self,cond_true,Int.toNat_natCast,zcM,zeY,hp]
   rfl
 ·right
  unfold zlf
  rw[(zfe r hs hr).2 hv];rfl
end
theorem zsA{b:List UInt8}(hb:b.length<=100000){i:Nat}(hi:i<b.length):(∃ r,PR b i r/\zW 200000 b (i:Int)=some (r,((i+(qq r).length:Nat):Int),true,()))\/zW 200000 b (i:Int)=zeU:=by
 have hi':=Nat.le_of_lt hi
 have fin:∀ r,Small r->Rng r->(∃ r',PR b i r'/\zlf b (i:Int) r=some (r',((i+(qq r').length:Nat):Int),true,()))\/zlf b (i:Int) r=zeU:=fun r hs hr=>(zwK hb hi' r hs hr).imp (fun h=>⟨r,h⟩) id
 rw[zcX,decide_eq_false (show ¬ (i:Int)<0 by omega),decide_eq_false (show ¬ ((b.length:Nat):Int)<=(i:Int) by omega)]
 simp only[cond_false]
 obtain⟨j,hj,ok,e⟩:=xE 200000 hb hi' [42,32] (by decide)
 rw[e]
 cases ok with
 |true=>
  simp only[Option.bind_some,cond_true]
  obtain⟨k,r,e,h1,h2⟩:=zkU hb hj
  rw[e]
  exact fin r h1 h2
 |false=>
  simp only[Option.bind_some,cond_false]
  obtain⟨j,hj,ok,e⟩:=xE 200000 hb hj [43,32] (by decide)
  rw[e]
  cases ok with
  |true=>
   simp only[Option.bind_some,cond_true]
   obtain⟨k,hk,x,ok,e,hx,_⟩:=zc3 200000 hb hj (s:=[13,10]) (by decide) (by decide)
   rw[e]
   exact fin _ (zbO (Nat.le_trans hx hb)) zfk
  |false=>
   simp only[Option.bind_some,cond_false]
   obtain⟨k,r,e,h1,h2⟩:=znV hb hj
   rw[e]
   exact fin r h1 h2
theorem zfb:zeu 42=false/\zeu 43=false/\zeu 32=false:=by refine⟨?_,?_,?_⟩<;>kernel_rfl
theorem zgp:zaD 13=false:=by kernel_rfl
theorem zhF{p:UInt8->Bool}{l:List UInt8}{c:UInt8}(h:l.all p=true)(hc:p c=false):∀ x ∈ l,x≠c:=fun x hx e=>by
 have:=List.all_eq_true.1 h x hx
 rw[e,hc] at this;cases this
theorem zmr(n:Nat):∃ c d,dec n=c::d/\zaM c=true:=by
 have h:=zuN n
 cases e:dec n with
 |nil=>rw[e] at h;cases h
 |cons c d=>exact⟨c,d,rfl,zeS 10 n c (by show c ∈ dec n;rw[e];exact List.mem_cons_self)⟩
theorem ziG{a c:UInt8}{s r:List UInt8}(hc:zaM c=true)(ha:zaM a=false):pre (a::s) (c::r)=false:=zkv (by rw[beq_eq_false_iff_ne];exact(zsf hc ha).symm)
section
variable {b:List UInt8} (hb:b.length<=100000)
include hb
theorem zmE{i:Nat}{r:List UInt8}(h:At b i r)(h1:pre [79,75,32] r=false)(h2:pre [66,89,69,32] r=false)(h3:pre [66,65,68,32] r=false):zl 200000 200000 0 b (i:Int) 0 zjw=some (Sum.inr (b,(i:Int),0,zjw)):=by
 have e0:=ztt 199999 b i
 rw[show(199999+1:Nat)=200000 from rfl] at e0
 rw[e0,xu 200000 hb h (by decide) h1]
 simp only[Option.bind_some,cond_false]
 rw[show(199999:Nat)=199998+1 from rfl,zq0,xu 200000 hb h (by decide) h2]
 simp only[Option.bind_some,cond_false]
 rw[show(199998:Nat)=199997+1 from rfl,ztu,xu 200000 hb h (by decide) h3]
 simp only[Option.bind_some,cond_false]
 rw[show(199997:Nat)=199996+1 from rfl,zu4]
theorem zlt(k:Int){i:Nat}{x t:List UInt8}(h:At b i (x++[13,10]++t))(hx:∀ c ∈ x,c≠13):∃ j:Nat,zls k (b,(i:Int))=some (Sum.inl (b,(j:Int),k,x,0,zjw)):=by
 unfold zls
 rw[zfq 200000 hb h (by decide) hx]
 exact⟨_,rfl⟩
theorem zxb{i:Nat}(k:Int)(w x t:List UInt8)(hk:(k=6/\w=[79,75,32])\/(k=7/\w=[66,89,69,32])\/(k=8/\w=[66,65,68,32]))(h:At b i (w++(x++[13,10]++t)))(hx:∀ c ∈ x,c≠13):∃ s,zy 200000 (b,(i:Int))=some (s,zma k x,()):=by
 rw[zb9]
 have e0:=ztt 199999 b i
 rw[show(199999+1:Nat)=200000 from rfl] at e0
 rcases hk with⟨rfl,rfl⟩|⟨rfl,rfl⟩|⟨rfl,rfl⟩
 ·rw[e0,zbM 200000 hb h (by decide)]
  simp only[Option.bind_some,cond_true]
  obtain⟨j,e⟩:=zlt hb 6 h.app hx
  rw[e];exact⟨_,rfl⟩
 ·rw[e0,xu 200000 hb h (by decide) rfl]
  simp only[Option.bind_some,cond_false]
  rw[show(199999:Nat)=199998+1 from rfl,zq0,zbM 200000 hb h (by decide)]
  simp only[Option.bind_some,cond_true]
  obtain⟨j,e⟩:=zlt hb 7 h.app hx
  rw[e];exact⟨_,rfl⟩
 ·rw[e0,xu 200000 hb h (by decide) rfl]
  simp only[Option.bind_some,cond_false]
  rw[show(199999:Nat)=199998+1 from rfl,zq0,xu 200000 hb h (by decide) rfl]
  simp only[Option.bind_some,cond_false]
  rw[show(199998:Nat)=199997+1 from rfl,ztu,zbM 200000 hb h (by decide)]
  simp only[Option.bind_some,cond_true]
  obtain⟨j,e⟩:=zlt hb 8 h.app hx
  rw[e];exact⟨_,rfl⟩
theorem zyY{i:Nat}{t:List UInt8}(h:At b i ([70,76,65,71,83,32]++t)):∃ s,zy 200000 (b,(i:Int))=some (s,zjy 5 0,()):=by
 rw[zb9,zmE hb h rfl rfl rfl]
 simp only[Option.bind_some,zv]
 rw[zbM 200000 hb h (by decide)]
 exact⟨_,rfl⟩
theorem zx0{i n:Nat}{r:List UInt8}(hn:n<4294967296)(h:At b i (dec n++32::r)):zy 200000 (b,(i:Int)) =
  (Option.bind (zi 200000 200000 (n:Int) 0 b ((i+(dec n).length+1:Nat):Int) 0 zju) fun o=>zv o (fun a=>some ((a.1,a.2.1),(a.2.2.1,(a.2.2.2.1,([],(0,([],(0,(a.2.2.2.2.1,(0,(0,[]))))))))),())) (fun c=>Option.bind (za 200000 (c.2.1,c.2.2.1) [70,69,84,67,72,32,40]) fun y=>cond y.2.1 (Option.bind (zI 200000 y.1 c.1) fun z=>some (z.1,z.2.1,())) (zro y.1))):=by
 obtain⟨c,d,e,hc⟩:=zmr n
 have h':At b i (c::(d++32::r)):=by rw[e] at h;exact h
 rw[zb9,zmE hb h' (ziG hc (by decide)) (ziG hc (by decide)) (ziG hc (by decide))]
 simp only[Option.bind_some,zv]
 rw[xu 200000 hb h' (by decide) (ziG hc (by decide))]
 simp only[Option.bind_some,cond_false]
 rw[zi5 200000 hb (by omega) (by omega) hn h (by decide)]
 simp only[Option.bind_some,Bool.not_true,cond_false]
 rw[zbM 200000 hb (s:=[32]) (r:=r) h.app (by decide)]
 rfl
theorem zqm{i n:Nat}(k:Int){w t:List UInt8}(hk:(k=1/\w=[69,88,73,83,84,83])\/(k=2/\w=[82,69,67,69,78,84])\/(k=3/\w=[69,88,80,85,78,71,69]))(hn:n<4294967296)(h:At b i (dec n++32::(w++t))):∃ s,zy 200000 (b,(i:Int))=some (s,zjy k n,()):=by
 rw[zx0 hb hn h]
 have h2:At b (i+(dec n).length+1) (w++t):=At.app (s:=[32]) h.app
 generalize i+(dec n).length+1=j at h2
 have e0:=ztv 199999 (n:Int) b j
 rw[show(199999+1:Nat)=200000 from rfl] at e0
 rw[e0,show(199999:Nat)=199998+1 from rfl,ztw]
 rcases hk with⟨rfl,rfl⟩|⟨rfl,rfl⟩|⟨rfl,rfl⟩
 ·rw[zbM 200000 hb h2 (by decide)];exact⟨_,rfl⟩
 ·rw[xu 200000 hb h2 (by decide) rfl]
  simp only[Option.bind_some,cond_false]
  rw[show(199998:Nat)=199997+1 from rfl,zq1,zbM 200000 hb h2 (by decide)];exact⟨_,rfl⟩
 ·rw[xu 200000 hb h2 (by decide) rfl]
  simp only[Option.bind_some,cond_false]
  rw[show(199998:Nat)=199997+1 from rfl,zq1,xu 200000 hb h2 (by decide) rfl]
  simp only[Option.bind_some,cond_false]
  rw[show(199997:Nat)=199996+1 from rfl,ztx,zbM 200000 hb h2 (by decide)];exact⟨_,rfl⟩
theorem zwi{i n:Nat}{t:List UInt8}(hn:n<4294967296)(h:At b i (dec n++32::([70,69,84,67,72,32,40]++t))):zy 200000 (b,(i:Int))=(Option.bind (zI 200000 (b,((i+(dec n).length+1+7:Nat):Int)) n) fun z=>some (z.1,z.2.1,())):=by
 rw[zx0 hb hn h]
 have h2:At b (i+(dec n).length+1) ([70,69,84,67,72,32,40]++t):=At.app (s:=[32]) h.app
 generalize i+(dec n).length+1=j at h2
 have e0:=ztv 199999 (n:Int) b j
 rw[show(199999+1:Nat)=200000 from rfl] at e0
 rw[e0,show(199999:Nat)=199998+1 from rfl,ztw,xu 200000 hb h2 (by decide) rfl]
 simp only[Option.bind_some,cond_false]
 rw[show(199998:Nat)=199997+1 from rfl,zq1,xu 200000 hb h2 (by decide) rfl]
 simp only[Option.bind_some,cond_false]
 rw[show(199997:Nat)=199996+1 from rfl,ztx,xu 200000 hb h2 (by decide) rfl]
 simp only[Option.bind_some,cond_false]
 rw[show(199996:Nat)=199995+1 from rfl,zu6]
 simp only[Option.bind_some,zv]
 rw[zbM 200000 hb h2 (by decide)]
 rfl
end
end Go.Proofs.Model
