/- Lists of flags. -/
import Derived.Test.YtljnndccimlnlaaGreatDoorRc
set_option linter.unusedVariables false
set_option linter.unusedSimpArgs false
set_option maxRecDepth 100000
namespace Go.Proofs.Model
open Go Go.Gx Go.Mx Go.Sx
theorem zrz (s:List UInt8) (hs:s.length <= 100000):wT 200000 s=some (s.map up,()):=by
 unfold wT
 rw [show Nat.blt s.length jA=true by rw [Nat.blt_eq];unfold jA;omega,cond_true]
 have:=zgM 200000 s hs 200000 0 (by omega) (by omega)
 rw [List.take_zero,List.drop_zero,List.map_nil,List.nil_append,show ((0:Nat):Int)=0 from rfl] at this
 rw [this];rfl
theorem zqI (N:Nat) (s p:List UInt8) (hs:s.length <= 100000) (hp:p.length <= 100):∃ x ok,qR N s p=some (x,ok,()) /\ x.length <= s.length:=by
 unfold qR qP qT
 by_cases h:p.length <= s.length
 ·rw [decide_eq_true (by omega:((p.length:Nat):Int) <= ((s.length:Nat):Int)),show jS (0:Int) ((p.length:Nat):Int) s.length=true from zas (a:=0) (Nat.zero_le _) h,zas h (Nat.le_refl _)]
  simp only [cond_true,Option.bind_some]
  cases slice s 0 (Int.toNat ((p.length:Nat):Int)) == p with
  | true=>exact ⟨_,_,rfl,zao⟩
  | false=>exact ⟨_,_,rfl,Nat.le_refl _⟩
 ·rw [decide_eq_false (by omega)]
  exact ⟨_,_,rfl,Nat.le_refl _⟩
theorem zrb (N:Nat) (s p:List UInt8) (hs:s.length <= 100000) (hp:p.length <= 100):∃ x ok,qS N s p=some (x,ok,()) /\ x.length <= s.length:=by
 unfold qS qN qU
 by_cases h:p.length <= s.length
 ·have w:IntKind.wrap .i64 (((s.length:Nat):Int) - ((p.length:Nat):Int))=((s.length - p.length:Nat):Int):=by rw [wri (by omega) (by omega)];omega
  rw [decide_eq_true (by omega:((p.length:Nat):Int) <= ((s.length:Nat):Int)),w,zas (show s.length - p.length <= s.length by omega) (Nat.le_refl _),show jS (0:Int) ((s.length - p.length:Nat):Int) s.length=true from zas (a:=0) (Nat.zero_le _) (by omega)]
  simp only [cond_true,Option.bind_some]
  cases slice s (Int.toNat ((s.length - p.length:Nat):Int)) (Int.toNat ((s.length:Nat):Int)) == p with
  | true=>exact ⟨_,_,rfl,zao⟩
  | false=>exact ⟨_,_,rfl,Nat.le_refl _⟩
 ·rw [decide_eq_false (by omega)]
  exact ⟨_,_,rfl,Nat.le_refl _⟩
theorem zsk:zaT 200000 (31:UInt8)=some ([1,2,4,8,16],()):=by kernel_rfl
theorem zqA:qY 200000 200000 [1,2,4,8,16] (((List.length ([1,2,4,8,16]:List UInt8)):Nat):Int) (0:Int) ([]:List ((List UInt8) × UInt8))=some flT:=by kernel_rfl
theorem zpE (parts:List (List UInt8)) (hp:parts.length <= 100001) (hq:∀ p ∈ parts,p.length <= 100000) (T:List (List UInt8 × UInt8)):∀ (m i:Nat) (x:UInt8),i <= parts.length -> parts.length < m + i ->
  ∃ f,qb 200000 m x ((parts.length:Nat):Int) ((i:Nat):Int) T parts=some (.inl (f,T,parts)) \/ qb 200000 m x ((parts.length:Nat):Int) ((i:Nat):Int) T parts=some (.inr (f,T,parts))
 | 0,i,x,h,h2=>by omega
 | m + 1,i,x,h,h2=>by
  unfold qb xz
  by_cases hi:i < parts.length
  ·simp only [zoh hi,cond_true,jr hi,Int.toNat_natCast,zd1 (u:=.str) hi,zrz _ (hq _ (List.getElem_mem hi)),Option.bind_some]
   cases zaY .str .u8 T (parts[i].map up) with
   | none=>exact ⟨0,.inl rfl⟩
   | some v=>
    simp only [Option.isSome_some,Bool.not_true,cond_false]
    rw [wri (by omega) (by omega),show ((i:Int) + 1)=((i + 1:Nat):Int) by omega]
    exact zpE parts hp hq T m (i + 1) _ (by omega) (by omega)
  ·rw [zpY hi];exact ⟨x,.inr rfl⟩
theorem zre (s:List UInt8) (hs:s.length <= 100000):∃ f ok,jn 200000 s=some (f,ok,()):=by
 unfold jn
 obtain ⟨x,ok,h1,h2⟩:=zqI 200000 s [40] hs (by decide)
 obtain ⟨y,ok2,h3,h4⟩:=zrb 200000 x [41] (by omega) (by decide)
 rw [h1]
 simp only [Option.bind_some]
 rw [h3]
 simp only [Option.bind_some,zsk,zqA]
 cases ok with
 | false=>exact ⟨_,_,rfl⟩
 | true=>
  cases ok2 with
  | false=>exact ⟨_,_,rfl⟩
  | true=>
   simp only [Bool.not_true,cond_false]
   cases y == ([]:List UInt8) with
   | true=>exact ⟨_,_,rfl⟩
   | false=>
    simp only [cond_false]
    rw [zqJ (show y.length <= za4 by unfold za4;omega),cond_true,zjU]
    obtain ⟨q1,q2,q3⟩:=zgP 32 y
    obtain ⟨f,hf⟩:=zpE (wZ 32 y) (by omega) (fun p hp=>by have:=q3 p hp;omega) flT 200000 0 0 (Nat.zero_le _) (by omega)
    rw [show ((0:Nat):Int)=(0:Int) from rfl] at hf
    rcases hf with hf | hf
    ·rw [hf];exact ⟨f,false,rfl⟩
    ·rw [hf];exact ⟨f,true,rfl⟩
def sOf (o:Option (List UInt8 × Unit)):List UInt8:=match o with
 | some (x,_)=>x
 | none=>[]
def isS (o:Option (List UInt8 × Unit)) (l:List UInt8):Bool:=match o with
 | some (x,_)=>x == l
 | none=>false
theorem zql {o:Option (List UInt8 × Unit)} {l:List UInt8} (h:isS o l=true):o=some (l,()):=by
 unfold isS at h
 split at h
 ·rw [eq_of_beq h]
 ·cases h
def isF (o:Option (UInt8 × Bool × Unit)) (f:UInt8):Bool:=match o with
 | some (x,b,_)=>x == f && b
 | none=>false
theorem zsc {o:Option (UInt8 × Bool × Unit)} {f:UInt8} (h:isF o f=true):o=some (f,true,()):=by
 unfold isF at h
 split at h
 ·simp only [Bool.and_eq_true] at h;obtain ⟨h1,h2⟩:=h;rw [eq_of_beq h1,h2]
 ·cases h
def isI (o:Option (Int × Unit)) (f:Int):Bool:=match o with
 | some (x,_)=>x == f
 | none=>false
theorem zsB {o:Option (Int × Unit)} {f:Int} (h:isI o f=true):o=some (f,()):=by
 unfold isI at h
 split at h
 ·rw [eq_of_beq h]
 ·cases h
def flB (f:UInt8):List UInt8:=(sOf (jW 200 f.toNat)).dropLast
def zri (f:UInt8):Bool:=decide (31 < f) || (isS (kY 200000 f) (flB f ++ [41]) && (isS (jW 200000 f.toNat) (flB f ++ [41]) && (isF (jn 200000 (flB f ++ [41])) f && (isI (kz 200000 (flB f ++ [41])) f.toNat && ((flB f).all (fun c=>c != 41) && Nat.ble (flB f).length 60)))))
theorem ztj (f:UInt8):zri f=true:=zec (p:=zri) (by kernel_rfl) f
end Go.Proofs.Model
