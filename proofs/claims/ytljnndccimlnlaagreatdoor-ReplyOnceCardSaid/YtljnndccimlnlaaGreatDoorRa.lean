/- Reading at an offset: the reader's steps and the reference's. -/
import Derived.Test.YtljnndccimlnlaaGreatDoorRm
import Derived.Test.YtljnndccimlnlaaGreatDoorB6
import Derived.Lib.IndexMore
set_option linter.unusedVariables false
set_option linter.unusedSimpArgs false
set_option maxRecDepth 100000
namespace Go.Proofs.Model
open Go Go.Gx Go.Mx Go.Sx
structure At (b:List UInt8) (i:Nat) (r:List UInt8):Prop where
 le:i <= b.length
 dr:b.drop i=r
theorem At.app {b:List UInt8} {i:Nat} {s r:List UInt8} (h:At b i (s ++ r)):At b (i + s.length) r:=by
 have hl:(b.drop i).length=s.length + r.length:=by rw [h.dr,List.length_append]
 rw [List.length_drop] at hl
 have:=h.le
 refine ⟨by omega,?_⟩
 rw [<- List.drop_drop,h.dr,List.drop_left]
theorem At.len {b:List UInt8} {i:Nat} {r:List UInt8} (h:At b i r):i + r.length=b.length:=by
 have:=h.le;rw [<- h.dr,List.length_drop];omega
def pre (s r:List UInt8):Bool:=s.isPrefixOf r
theorem zfd {s r:List UInt8}:pre s r=true ↔ ∃ t,r=s ++ t:=by
 unfold pre
 rw [List.isPrefixOf_iff_prefix]
 exact ⟨fun ⟨t,h⟩=>⟨t,h.symm⟩,fun ⟨t,h⟩=>⟨t,h.symm⟩⟩
theorem zom {s r:List UInt8}:pre s r=(decide (s.length <= r.length) && (r.take s.length == s)):=by
 rw [Bool.eq_iff_iff,zfd]
 simp only [Bool.and_eq_true,decide_eq_true_eq,beq_iff_eq]
 constructor
 ·rintro ⟨t,rfl⟩;simp
 ·rintro ⟨h1,h2⟩;exact ⟨r.drop s.length,by conv=>lhs;rw [<- List.take_append_drop s.length r,h2]⟩
theorem ztP {s r:List UInt8}:pre s (s ++ r)=true:=zfd.2 ⟨r,rfl⟩
theorem zqM {n m:Nat} (h:n < m):Nat.blt n m=true:=by rw [Nat.blt_eq];exact h
theorem zqJ {n m:Nat} (h:n <= m):Nat.ble n m=true:=by rw [Nat.ble_eq];exact h
theorem zcS (N:Nat) {b:List UInt8} {i:Nat} {r:List UInt8} (h:At b i r):zg N (b,(i:Int))=some ((b,(i:Int)),r,()):=by
 unfold zg
 simp only [ze4 h.le,Bool.and_self,cond_true,Int.toNat_natCast,zdf,h.dr]
theorem zg5 (N:Nat) (r s:List UInt8):zj N r s=some (pre s r,()):=by
 unfold zj zaJ
 rw [zom]
 by_cases h:s.length <= r.length
 ·rw [decide_eq_true (by omega:((s.length:Nat):Int) <= ((r.length:Nat):Int)),decide_eq_true h]
  rw [show ((0:Int))=((0:Nat):Int) from rfl,zas (Nat.zero_le _) h]
  simp only [cond_true,Bool.and_self,Option.bind_some,Int.toNat_natCast,zgf,Bool.true_and]
 ·rw [decide_eq_false (by omega),decide_eq_false h];rfl
theorem zl0 (N:Nat) {b:List UInt8} (hb:b.length <= 100000) {i:Nat} {r:List UInt8} (h:At b i r) (s:List UInt8) (hs:s.length <= 100000):za N (b,(i:Int)) s=some (if pre s r then ((b,((i + s.length:Nat):Int)),true,()) else ((b,(i:Int)),false,())):=by
 unfold za
 simp only [zcS N h,Option.bind_some,zqM (show s.length < jA by unfold jA;omega),cond_true,zg5]
 have:=h.le
 cases pre s r with
 | true=>
  simp only [Bool.not_true,cond_false,if_true]
  rw [wri (by omega) (by omega),Int.natCast_add]
 | false=>rfl
theorem kk (N:Nat) {b:List UInt8} (hb:b.length <= 100000) {i:Nat} (hi:i <= b.length) (s:List UInt8) (hs:s.length <= 100000):∃ j:Nat,j <= b.length /\ ∃ ok,za N (b,(i:Int)) s=some ((b,(j:Int)),ok,()):=by
 have h:At b i (b.drop i):=⟨hi,rfl⟩
 rw [zl0 N hb h s hs]
 cases hp:pre s (b.drop i) with
 | true=>
  obtain ⟨t,ht⟩:=zfd.1 hp
  have:=At.app (b:=b) (i:=i) (s:=s) (r:=t) ⟨hi,ht⟩
  exact ⟨_,this.le,true,rfl⟩
 | false=>exact ⟨i,hi,false,rfl⟩
theorem zbL (N:Nat) {b:List UInt8} (hb:b.length <= 100000) {i:Nat} (hi:i <= b.length) {s:List UInt8} (hs:0 < s.length) (hs2:s.length <= 100):∃ j:Nat,j <= b.length /\ ∃ x ok,zv N (b,(i:Int)) s=some ((b,(j:Int)),x,ok,()) /\ x.length <= b.length /\ (ok=true -> x.length + s.length <= b.length):=by
 have h:At b i (b.drop i):=⟨hi,rfl⟩
 unfold zv
 have hl:(b.drop i).length <= b.length:=by rw [List.length_drop];omega
 simp only [zcS N h,Option.bind_some,zqM (show s.length < jA by unfold jA;omega),cond_true,zqM hs,zqJ (show (b.drop i).length <= za4 by unfold za4;omega),zqJ (show s.length <= za4 by unfold za4;omega),Bool.and_self]
 rcases Int.lt_or_le (Go.Lib.index (b.drop i) s) 0 with h0 | h0
 ·rw [decide_eq_true h0]
  exact ⟨i,hi,[],false,rfl,Nat.zero_le _,fun h=>(by cases h)⟩
 ·rw [decide_eq_false (by omega)]
  have hroom:=Go.Lib.index_room _ _ h0
  obtain ⟨k,hk⟩:∃ k:Nat,Go.Lib.index (b.drop i) s=(k:Int):=⟨_,(Int.toNat_of_nonneg h0).symm⟩
  rw [hk] at hroom |-
  rw [List.length_drop] at hroom
  rw [show ((0:Int))=((0:Nat):Int) from rfl,zas (Nat.zero_le _) (by rw [List.length_drop];omega)]
  simp only [cond_false,Bool.and_self,cond_true,Int.toNat_natCast,zgf]
  rw [wri (x:=(k:Int) + (s.length:Int)) (by omega) (by omega),wri (by omega) (by omega),show (i:Int) + ((k:Int) + (s.length:Int))=((i + (k + s.length):Nat):Int) by omega]
  exact ⟨_,by omega,_,true,rfl,by rw [List.length_take];omega,fun _=>by rw [List.length_take];omega⟩
def zrt (c:UInt8):Bool:=decide (48 <= c.toNat) && decide (c.toNat <= 57)
end Go.Proofs.Model
