/- Lists of flags. -/
import Derived.Test.YtokiphiakdfipaaGreatDoorRc
set_option linter.unusedVariables false
set_option linter.unusedSimpArgs false
set_option maxRecDepth 100000
namespace Go.Proofs.Model
open Go Go.Gx Go.Mx Go.Sx
theorem zur(s:List UInt8)(hs:s.length<=100000):kU 200000 s=some (s.map up,()):=by
 unfold kU
 rw[show Nat.blt s.length jh=true by rw[Nat.blt_eq];unfold jh;omega,cond_true]
 have:=zio 200000 s hs 200000 0 (by omega) (by omega)
 rw[List.take_zero,List.drop_zero,List.map_nil,List.nil_append,show((0:Nat):Int)=0 from rfl] at this
 rw[this];rfl
theorem zmR(s:List UInt8)(hs:s.length<=100000):wW 200000 s=some (s.map up,()):=by
 unfold wW
 have:=zg9 200000 s hs 200000 0 (by omega) (by omega)
 rw[List.take_zero,List.map_nil,show((0:Nat):Int)=0 from rfl] at this
 rw[this];rfl
theorem zs6(N:Nat)(s p:List UInt8)(hs:s.length<=100000)(hp:p.length<=100):∃ x ok,jD N s p=some (x,ok,())/\x.length<=s.length:=by
 unfold jD jF jH
 by_cases h:p.length<=s.length
 ·rw[decide_eq_true (by omega:((p.length:Nat):Int)<=((s.length:Nat):Int)),show wo (0:Int) ((p.length:Nat):Int) s.length=true from qU (a:=0) (Nat.zero_le _) h,qU h (Nat.le_refl _)]
  simp only[cond_true,Option.bind_some]
  cases slice s 0 (Int.toNat ((p.length:Nat):Int))==p with
  |true=>exact⟨_,_,rfl,jx⟩
  |false=>exact⟨_,_,rfl,Nat.le_refl _⟩
 ·rw[decide_eq_false (by omega)]
  exact⟨_,_,rfl,Nat.le_refl _⟩
theorem zs7(N:Nat)(s p:List UInt8)(hs:s.length<=100000)(hp:p.length<=100):∃ x ok,jE N s p=some (x,ok,())/\x.length<=s.length:=by
 unfold jE jG jI
 by_cases h:p.length<=s.length
 ·have w:IntKind.wrap .i64 (((s.length:Nat):Int)-((p.length:Nat):Int))=((s.length-p.length:Nat):Int):=by rw[wri (by omega) (by omega)];omega
  rw[decide_eq_true (by omega:((p.length:Nat):Int)<=((s.length:Nat):Int)),w,qU (show s.length-p.length<=s.length by omega) (Nat.le_refl _),show wo (0:Int) ((s.length-p.length:Nat):Int) s.length=true from qU (a:=0) (Nat.zero_le _) (by omega)]
  simp only[cond_true,Option.bind_some]
  cases slice s (Int.toNat ((s.length-p.length:Nat):Int)) (Int.toNat ((s.length:Nat):Int))==p with
  |true=>exact⟨_,_,rfl,jx⟩
  |false=>exact⟨_,_,rfl,Nat.le_refl _⟩
 ·rw[decide_eq_false (by omega)]
  exact⟨_,_,rfl,Nat.le_refl _⟩
theorem zuR:zbR 200000 (31:UInt8)=some ([1,2,4,8,16],()):=by kernel_rfl
theorem ztK:jK 200000 200000 [1,2,4,8,16] (((List.length ([1,2,4,8,16]:List UInt8)):Nat):Int) (0:Int) ([]:List ((List UInt8)×UInt8))=some flT:=by kernel_rfl
theorem zso(parts:List (List UInt8))(hp:parts.length<=100001)(hq:∀ p ∈ parts,p.length<=100000)(T:List (List UInt8×UInt8)):∀ (m i:Nat) (x:UInt8),i<=parts.length->parts.length<m+i ->
  ∃ f,qE 200000 m x ((parts.length:Nat):Int) ((i:Nat):Int) T parts=some (.inl (f,T,parts))\/qE 200000 m x ((parts.length:Nat):Int) ((i:Nat):Int) T parts=some (.inr (f,T,parts))
 |0,i,x,h,h2=>by omega
 |m+1,i,x,h,h2=>by
  unfold qE zaR
  by_cases hi:i<parts.length
  ·simp only[zhu hi,cond_true,qi hi,Int.toNat_natCast,wR (u:=.str) hi,zur _ (hq _ (List.getElem_mem hi)),Option.bind_some]
   cases zcd .str .u8 T (parts[i].map up) with
   |none=>exact⟨0,.inl rfl⟩
   |some v=>
    simp only[Option.isSome_some,Bool.not_true,cond_false]
    rw[wri (by omega) (by omega),show((i:Int)+1)=((i+1:Nat):Int) by omega]
    exact zso parts hp hq T m (i+1) _ (by omega) (by omega)
  ·rw[zh3 hi];exact⟨x,.inr rfl⟩
theorem ztg(s:List UInt8)(hs:s.length<=100000):∃ f ok,j0 200000 s=some (f,ok,()):=by
 unfold j0
 obtain⟨x,ok,h1,h2⟩:=zs6 200000 s [40] hs (by decide)
 obtain⟨y,ok2,h3,h4⟩:=zs7 200000 x [41] (by omega) (by decide)
 rw[h1]
 simp only[Option.bind_some]
 rw[h3]
 simp only[Option.bind_some,zuR,ztK]
 cases ok with
 |false=>exact⟨_,_,rfl⟩
 |true=>
  cases ok2 with
  |false=>exact⟨_,_,rfl⟩
  |true=>
   simp only[Bool.not_true,cond_false]
   cases y==([]:List UInt8) with
   |true=>exact⟨_,_,rfl⟩
   |false=>
    simp only[cond_false]
    rw[zoo (show y.length<=zbh by unfold zbh;omega),cond_true,zl5]
    obtain⟨q1,q2,q3⟩:=zig 32 y
    obtain⟨f,hf⟩:=zso (xw 32 y) (by omega) (fun p hp=>by have:=q3 p hp;omega) flT 200000 0 0 (Nat.zero_le _) (by omega)
    rw[show((0:Nat):Int)=(0:Int) from rfl] at hf
    rcases hf with hf|hf
    ·rw[hf];exact⟨f,false,rfl⟩
    ·rw[hf];exact⟨f,true,rfl⟩
theorem ztJ(N:Nat)(x:Int):∃ n,wL N x=some (n,())/\n.length<=20:=by
 unfold wL
 repeat' (first|exact⟨_,rfl,by decide⟩|(cases(x==_)<;>simp only[cond_true,cond_false]))
theorem zbI(s:List UInt8)(hs:s.length<=100000)(m:Nat)(x:Int)(hx:x<=16)(h0:1<=x):zU 200000 (m+1) s x=some (.inl x)\/zU 200000 (m+1) s x=zU 200000 m s (2*x):=by
 conv=>lhs;lhs;unfold zU wX
 conv=>rhs;lhs;unfold zU wX
 obtain⟨n,hn,hl⟩:=ztJ 200000 x
 rw[decide_eq_true hx]
 simp only[cond_true,hn,Option.bind_some,zmR n (by omega),zmR s hs]
 cases n.map up==s.map up with
 |true=>exact .inl rfl
 |false=>right;simp only[cond_false];rw[wri (by omega) (by omega)]
theorem zrt(s:List UInt8)(hs:s.length<=100000):∃ v:Int,kW 200000 s=some (v,()):=by
 unfold kW
 have key:∃ o,zU 200000 200000 s 1=some o:=by
  rcases zbI s hs 199999 1 (by omega) (by omega) with h|h
  ·exact⟨_,h⟩
  ·rw[h]
   rcases zbI s hs 199998 (2*1) (by omega) (by omega) with h|h
   ·exact⟨_,h⟩
   ·rw[h]
    rcases zbI s hs 199997 (2*(2*1)) (by omega) (by omega) with h|h
    ·exact⟨_,h⟩
    ·rw[h]
     rcases zbI s hs 199996 (2*(2*(2*1))) (by omega) (by omega) with h|h
     ·exact⟨_,h⟩
     ·rw[h]
      rcases zbI s hs 199995 (2*(2*(2*(2*1)))) (by omega) (by omega) with h|h
      ·exact⟨_,h⟩
      ·rw[h];exact⟨_,rfl⟩
 obtain⟨o,ho⟩:=key
 rw[ho]
 cases o<;>exact⟨_,rfl⟩
theorem zg7(s:List UInt8)(hs:s.length<=100000):∀ (m i f:Nat) (acc:Int),f<=i->i<=s.length->s.length<m+i->∃ o,qj 200000 m s ((s.length:Nat):Int) acc ((f:Nat):Int) ((i:Nat):Int)=some o
 |0,i,f,acc,h,h2,h3=>by omega
 |m+1,i,f,acc,h,h2,h3=>by
  unfold qj zaj
  by_cases hi:i<s.length
  ·have w1:IntKind.wrap .i64 ((i:Int)+1)=((i+1:Nat):Int):=by rw[wri (by omega) (by omega)];omega
   obtain⟨v,hv⟩:=zrt (slice s f i) (Nat.le_trans jx hs)
   simp only[zhu hi,cond_true,qi hi,Int.toNat_natCast,w1,qU h h2,hv,Option.bind_some]
   have flush:∃ o,(cond (v==(0:Int)) (some (Sum.inl ())) (qj 200000 m s ((s.length:Nat):Int) (zd .or .i64 acc v) ((i+1:Nat):Int) ((i+1:Nat):Int)):Option (Unit ⊕ Int))=some o:=by
    cases v==(0:Int) with
    |true=>exact⟨_,rfl⟩
    |false=>exact zg7 s hs m (i+1) (i+1) _ (Nat.le_refl _) (by omega) (by omega)
   cases nth .u8 s i != (32:UInt8) with
   |true=>
    simp only[cond_true]
    cases decide ((i:Int)<IntKind.wrap .i64 (((s.length:Nat):Int)-1)) with
    |true=>exact zg7 s hs m (i+1) f acc (by omega) (by omega) (by omega)
    |false=>exact flush
   |false=>exact flush
  ·rw[zh3 hi];exact⟨_,rfl⟩
theorem zpu(s:List UInt8)(hs:s.length<=100000):∃ v:Int,wi 200000 s=some (v,()):=by
 unfold wi
 cases s==([40,41]:List UInt8) with
 |true=>exact⟨_,rfl⟩
 |false=>
  simp only[cond_false]
  by_cases h2:s.length<2
  ·rw[decide_eq_true (by omega:((s.length:Nat):Int)<2)];exact⟨_,rfl⟩
  ·have w1:IntKind.wrap .i64 (((s.length:Nat):Int)-1)=((s.length-1:Nat):Int):=by rw[wri (by omega) (by omega)];omega
   rw[decide_eq_false (by omega),show inb (0:Int) s.length=true from qi (i:=0) (by omega),w1,qi (show s.length-1<s.length by omega)]
   simp only[cond_true,cond_false]
   cases nth .u8 s 0 != (40:UInt8) with
   |true=>exact⟨_,rfl⟩
   |false=>
    simp only[cond_false]
    cases nth .u8 s (Int.toNat ((s.length-1:Nat):Int)) != (41:UInt8) with
    |true=>exact⟨_,rfl⟩
    |false=>
     obtain⟨o,ho⟩:=zg7 s hs 200000 1 1 0 (Nat.le_refl _) (by omega) (by omega)
     rw[show((1:Nat):Int)=(1:Int) from rfl] at ho
     rw[ho]
     cases o<;>exact⟨_,rfl⟩
def sOf(o:Option (List UInt8×Unit)):List UInt8:=match o with
 |some (x,_)=>x
 |none=>[]
def isS(o:Option (List UInt8×Unit))(l:List UInt8):Bool:=match o with
 |some (x,_)=>x==l
 |none=>false
theorem zsk{o:Option (List UInt8×Unit)}{l:List UInt8}(h:isS o l=true):o=some (l,()):=by
 unfold isS at h
 split at h
 ·rw[eq_of_beq h]
 ·cases h
def isF(o:Option (UInt8×Bool×Unit))(f:UInt8):Bool:=match o with
 |some (x,b,_)=>x==f&&b
 |none=>false
theorem zu1{o:Option (UInt8×Bool×Unit)}{f:UInt8}(h:isF o f=true):o=some (f,true,()):=by
 unfold isF at h
 split at h
 ·simp only[Bool.and_eq_true] at h;obtain⟨h1,h2⟩:=h;rw[eq_of_beq h1,h2]
 ·cases h
def isI(o:Option (Int×Unit))(f:Int):Bool:=match o with
 |some (x,_)=>x==f
 |none=>false
theorem zu2{o:Option (Int×Unit)}{f:Int}(h:isI o f=true):o=some (f,()):=by
 unfold isI at h
 split at h
 ·rw[eq_of_beq h]
 ·cases h
def flB(f:UInt8):List UInt8:=(sOf (wK 200 f.toNat)).dropLast
def ztf(f:UInt8):Bool:=decide (31<f)||(isS (zac 200000 f) (flB f++[41])&&(isS (wK 200000 f.toNat) (flB f++[41])&&(isF (j0 200000 (flB f++[41])) f&&(isI (wi 200000 (flB f++[41])) f.toNat&&((flB f).all (fun c=>c != 41)&&Nat.ble (flB f).length 60)))))
theorem zuV(f:UInt8):ztf f=true:=zfv (p:=ztf) (by kernel_rfl) f
end Go.Proofs.Model
