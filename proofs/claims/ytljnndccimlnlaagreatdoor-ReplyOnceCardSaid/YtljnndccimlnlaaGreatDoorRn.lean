/- The reader's FETCH: its steps one by one, and what they make of a form. -/
import Derived.Test.YtljnndccimlnlaaGreatDoorRl
set_option linter.unusedVariables false
set_option linter.unusedSimpArgs false
set_option maxRecDepth 100000
namespace Go.Proofs.Model
open Go Go.Gx Go.Mx Go.Sx
abbrev RSt:=List UInt8 × Int
abbrev zmF:=Option (RSt × Rsp × Unit)
def ztK:Rsp:=(0,(0,([],(0,([],(0,(0,(0,(0,[])))))))))
section
variable (N:Nat) (p1:Int)
def zto (s:RSt) (it:Int) (fl:UInt8) (uid sz:Int) (body:List UInt8):zmF:=some (s,(4,(p1,([],(0,([],(it,(fl,(uid,(sz,body))))))))),())
def zro (s:RSt):zmF:=some (s,ztK,())
def hdF (nm snm:List UInt8) (more:Bool) (s:RSt) (K0 K1:RSt -> zmF):zmF:=
 cond more (Option.bind (zg N s) fun y=>(Option.bind (zj N y.2.1 snm) fun z=>(cond (!z.1) (K0 y.1) (Option.bind (za N (y.1.1,(IntKind.wrap .i64 (y.1.2 + (1:Int)))) nm) fun w=>(cond (!w.2.1) (K0 w.1) (K1 w.1))))))
  (Option.bind (za N s nm) fun w=>(cond (!w.2.1) (K0 w.1) (K1 w.1)))
def f16 (it:Int) (fl:UInt8) (uid sz:Int) (s:RSt):zmF:=hdF N [66,79,68,89,91,93,32] [32,66,79,68,89,91,93,32] (it != 0) s (fun s=>zto p1 s it fl uid sz [])
 (fun s=>Option.bind (zm N s.1 s.2) fun y=>cond y.2.2.1 (cond (!y.2.2.1) (zro (s.1,y.2.1)) (zto p1 (s.1,y.2.1) (zd .or .i64 it 16) fl uid sz y.1)) (cond (!y.2.2.1) (zro s) (zto p1 s (zd .or .i64 it 16) fl uid sz [])))
def f4 (it:Int) (fl:UInt8) (uid:Int) (s:RSt):zmF:=hdF N [82,70,67,56,50,50,46,83,73,90,69,32] [32,82,70,67,56,50,50,46,83,73,90,69,32] (it != 0) s (fun s=>f16 N p1 it fl uid 0 s)
 (fun s=>Option.bind (zr N s) fun y=>cond (!y.2.2.1) (zro y.1) (f16 N p1 (zd .or .i64 it 4) fl uid y.2.1 y.1))
def f2 (it:Int) (fl:UInt8) (s:RSt):zmF:=hdF N [85,73,68,32] [32,85,73,68,32] (it != 0) s (fun s=>f4 N p1 it fl 0 s)
 (fun s=>Option.bind (zr N s) fun y=>cond (!y.2.2.1) (zro y.1) (f4 N p1 (zd .or .i64 it 2) fl y.2.1 y.1))
def f1 (s:RSt):zmF:=hdF N [70,76,65,71,83,32] [] false s (fun s=>f2 N p1 0 0 s)
 (fun s=>Option.bind (zv N s [41]) fun y=>cond (!y.2.2.1) (zro y.1) (cond (decide (List.length y.2.1 + List.length ([41]:List UInt8) < 4611686018427387904)) (Option.bind (jn N (y.2.1 ++ [41])) fun z=>cond (!z.2.1) (zro y.1) (f2 N p1 1 z.1 y.1)) none))
theorem zk1 (s:RSt):zV N s p1=f1 N p1 s:=by kernel_rfl
end
section
variable {N:Nat} {b:List UInt8} (hb:b.length <= 100000) {K0 K1:RSt -> zmF} {nm:List UInt8} (hn:nm.length <= 100)
include hb hn
theorem zps {snm:List UInt8} {more:Bool} {Q:zmF -> Prop} {i:Nat} (hi:i <= b.length) (h0:∀ j:Nat,j <= b.length -> Q (K0 (b,(j:Int)))) (h1:∀ j:Nat,j <= b.length -> Q (K1 (b,(j:Int)))) (hs:more=true -> snm ≠ []):Q (hdF N nm snm more (b,(i:Int)) K0 K1):=by
 unfold hdF
 have sk:∀ j:Nat,j <= b.length -> Q (Option.bind (za N (b,(j:Int)) nm) fun w=>(cond (!w.2.1) (K0 w.1) (K1 w.1))):=fun j hj=>by
  obtain ⟨k,hk,ok,e⟩:=kk N hb hj nm (by omega)
  rw [e]
  cases ok with
  | true=>exact h1 k hk
  | false=>exact h0 k hk
 cases more with
 | false=>exact sk i hi
 | true=>
  have h:At b i (b.drop i):=⟨hi,rfl⟩
  rw [cond_true,zcS N h]
  simp only [Option.bind_some,zg5]
  cases hp:pre snm (b.drop i) with
  | false=>exact h0 i hi
  | true=>
   obtain ⟨t,ht⟩:=zfd.1 hp
   have hl:(b.drop i).length=b.length - i:=List.length_drop
   have hs:=hs rfl
   have:0 < snm.length:=by cases snm with | nil=>exact absurd rfl hs | cons=>simp
   rw [ht,List.length_append] at hl
   simp only [Bool.not_true,cond_false]
   rw [wri (by omega) (by omega),show ((i:Int) + 1)=((i + 1:Nat):Int) by omega]
   exact sk (i + 1) (by omega)
end
theorem zrK (b:List UInt8) (i:Nat):∃ (x:List UInt8) (n:Nat) (ok:Bool),ztr b i=some (x,((n:Nat):Int),ok,()) /\ x.length <= b.length /\ n <= b.length:=by
 unfold ztr
 split
 ·exact ⟨[],0,false,rfl,Nat.zero_le _,Nat.zero_le _⟩
 ·split
  ·exact ⟨[],0,false,rfl,Nat.zero_le _,Nat.zero_le _⟩
  ·split
   ·rename_i hc;exact ⟨_,_,true,rfl,zao,hc.2.2.2⟩
   ·exact ⟨[],0,false,rfl,Nat.zero_le _,Nat.zero_le _⟩
theorem zqE {b:List UInt8} (hb:b.length <= 100000) {i:Nat} (hi:i <= b.length):∃ (x:List UInt8) (n:Nat) (ok:Bool),zm 200000 b (i:Int)=some (x,((n:Nat):Int),ok,()) /\ x.length <= b.length /\ n <= b.length:=by
 rcases Nat.lt_or_ge i b.length with h | h
 ·by_cases hc:b[i]=123
  ·rw [zn0 200000 b hb (by omega) i h hc];exact zrK b i
  ·refine ⟨[],0,false,?_,Nat.zero_le _,Nat.zero_le _⟩
   unfold zm
   have w1:IntKind.wrap .i64 ((i:Int) + 1)=((i + 1:Nat):Int):=by rw [wri (by omega) (by omega)];omega
   have w2:IntKind.wrap .i64 (((i + 1:Nat):Int) - 1)=(i:Int):=by rw [wri (by omega) (by omega)];omega
   have d0:decide ((i:Int) < 0)=false:=by simp
   have d1:decide (((b.length:Nat):Int) <= (i:Int))=false:=by simp;omega
   have hne:(b[i] == (123:UInt8))=false:=by rw [beq_eq_false_iff_ne];exact hc
   simp only [d0,d1,cond_false,w1,w2,jr h,cond_true,Int.toNat_natCast,zd1 (u:=.u8) h,hne,Bool.not_false]
   rfl
 ·refine ⟨[],0,false,?_,Nat.zero_le _,Nat.zero_le _⟩
  unfold zm
  have d0:decide ((i:Int) < 0)=false:=by simp
  have d1:decide (((b.length:Nat):Int) <= (i:Int))=true:=by simp;omega
  simp only [d0,d1,cond_false,cond_true]
  rfl
end Go.Proofs.Model
