/- The program's Parse answers the response whose form stands there. -/
import Derived.Test.YtljnndccimlnlaaGreatDoorRu
set_option linter.unusedVariables false
set_option linter.unusedSimpArgs false
set_option linter.unusedSectionVars false
set_option maxRecDepth 100000
namespace Go.Proofs.Model
open Go Go.Gx Go.Mx Go.Sx
abbrev zuo:=Option (Rsp × Int × Bool × Unit)
def ziJ:zuo:=some (ztK,0,false,())
def zlR (b:List UInt8) (p:Int) (x:Rsp):zuo:=Option.bind (qh 200000 x) fun y=>cond (!y.2.1) ziJ (cond (zfb p b && true) (Option.bind (zj 200000 (zfx b (Int.toNat p)) y.1) fun z=>cond (!z.1) ziJ (some (x,IntKind.wrap .i64 (p + ((List.length y.1:Nat):Int)),true,()))) none)
theorem zhe (b:List UInt8) (p:Int):qM 200000 b p=cond (decide (p < 0)) ziJ (cond (decide (((List.length b:Nat):Int) <= p)) ziJ (Option.bind (za 200000 (b,p) [42,32]) fun y1=>cond y1.2.1 (Option.bind (zS 200000 y1.1) fun y2=>zlR b p y2.2.1)
  (Option.bind (za 200000 y1.1 [43,32]) fun y5=>cond y5.2.1 (Option.bind (zv 200000 y5.1 [13,10]) fun y6=>zlR b p (zpx 10 y6.2.1)) (Option.bind (z8 200000 y5.1) fun y9=>zlR b p y9.2.1)))):=by kernel_rfl
structure PR (b:List UInt8) (i:Nat) (r:Rsp):Prop where
 v:VR r
 rg:Rng r
 sm:Small r
 st:∃ t,At b i (wU r ++ t)
section
variable {b:List UInt8} (hb:b.length <= 100000) {i:Nat} (hi:i <= b.length)
include hb hi
theorem ztM {r:Rsp} (h:PR b i r):zlR b (i:Int) r=some (r,((i + (wU r).length:Nat):Int),true,()):=by
 obtain ⟨t,ht⟩:=h.st
 have hl:=ht.len
 rw [List.length_append] at hl
 unfold zlR
 rw [(zbK r h.sm h.rg).1 h.v]
 simp only [Option.bind_some,Bool.not_true,cond_false,ze4 hi,Bool.and_self,cond_true,Int.toNat_natCast,zdf,ht.dr,zg5,ztP]
 rw [wri (by omega) (by omega),Int.natCast_add]
theorem zt9 (r:Rsp) (hs:Small r) (hr:Rng r):(PR b i r /\ zlR b (i:Int) r=some (r,((i + (wU r).length:Nat):Int),true,())) \/ zlR b (i:Int) r=ziJ:=by
 by_cases hv:VR r
 ·by_cases hp:pre (wU r) (b.drop i)=true
  ·obtain ⟨t,ht⟩:=zfd.1 hp
   have h:PR b i r:=⟨hv,hr,hs,t,hi,ht⟩
   exact .inl ⟨h,ztM hb hi h⟩
  ·right
   have hp:pre (wU r) (b.drop i)=false:=by simpa using hp
   unfold zlR
   rw [(zbK r hs hr).1 hv]
   simp only [Option.bind_some,Bool.not_true,cond_false,ze4 hi,Bool.and_self,cond_true,Int.toNat_natCast,zdf,zg5,hp]
   rfl
 ·right
  unfold zlR
  rw [(zbK r hs hr).2 hv];rfl
end
theorem zsh {b:List UInt8} (hb:b.length <= 100000) {i:Nat} (hi:i < b.length):(∃ r,PR b i r /\ qM 200000 b (i:Int)=some (r,((i + (wU r).length:Nat):Int),true,())) \/ qM 200000 b (i:Int)=ziJ:=by
 have hi':=Nat.le_of_lt hi
 have fin:∀ r,Small r -> Rng r -> (∃ r',PR b i r' /\ zlR b (i:Int) r=some (r',((i + (wU r').length:Nat):Int),true,())) \/ zlR b (i:Int) r=ziJ:=fun r hs hr=>(zt9 hb hi' r hs hr).imp (fun h=>⟨r,h⟩) id
 rw [zhe,decide_eq_false (show ¬ (i:Int) < 0 by omega),decide_eq_false (show ¬ ((b.length:Nat):Int) <= (i:Int) by omega)]
 simp only [cond_false]
 obtain ⟨j,hj,ok,e⟩:=kk 200000 hb hi' [42,32] (by decide)
 rw [e]
 cases ok with
 | true=>
  simp only [Option.bind_some,cond_true]
  obtain ⟨k,r,e,h1,h2⟩:=zid hb hj
  rw [e]
  exact fin r h1 h2
 | false=>
  simp only [Option.bind_some,cond_false]
  obtain ⟨j,hj,ok,e⟩:=kk 200000 hb hj [43,32] (by decide)
  rw [e]
  cases ok with
  | true=>
   simp only [Option.bind_some,cond_true]
   obtain ⟨k,hk,x,ok,e,hx,_⟩:=zbL 200000 hb hj (s:=[13,10]) (by decide) (by decide)
   rw [e]
   exact fin _ (ziH (Nat.le_trans hx hb)) zlQ
  | false=>
   simp only [Option.bind_some,cond_false]
   obtain ⟨k,r,e,h1,h2⟩:=zk9 hb hj
   rw [e]
   exact fin r h1 h2
section
variable {b:List UInt8} (hb:b.length <= 100000)
include hb
end
end Go.Proofs.Model
