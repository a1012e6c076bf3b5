/- The machines and the plain laws, part 6. -/
import Derived.Test.YtljnndccimlnlaaGreatDoorB5
set_option linter.unusedVariables false
set_option linter.unusedSimpArgs false
set_option maxRecDepth 100000
namespace Go.Proofs.Model
open Go Go.Gx Go.Mx Go.Sx
def zaG(c:UInt8):List UInt8->List (List UInt8)
 | []=>[[]]
 |x::l=>if x==c then[]::zaG c l else match zaG c l with
  |h::t=>(x::h)::t
  | []=>[[x]]
theorem zhO{c:UInt8}:∀ {l:List UInt8},posOf c l=none->zaG c l=[l]
 | [],h=>rfl
 |x::l,h=>by
  unfold posOf at h
  unfold zaG
  cases hx:x==c with
  |true=>simp only[hx,if_true] at h;cases h
  |false=>
   simp only[hx,Bool.false_eq_true,if_false] at h |-
   split at h
   ·cases h
   ·rename_i hn;rw[zhO hn]
theorem zhP{c:UInt8}:∀ {l:List UInt8} {i:Nat},posOf c l=some i->zaG c l=l.take i::zaG c (l.drop (i+1))
 | [],i,h=>by cases h
 |x::l,i,h=>by
  unfold posOf at h
  conv=>lhs;unfold zaG
  cases hx:x==c with
  |true=>simp only[hx,if_true] at h |-;cases h;rfl
  |false=>
   simp only[hx,Bool.false_eq_true,if_false] at h |-
   split at h
   ·rename_i j hj
    cases h
    rw[zhP hj];rfl
   ·cases h
theorem index_one(c:UInt8):∀ l:List UInt8,Go.Lib.index l [c]=match posOf c l with
  |some i=>((i:Nat):Int)
  |none=>-1
 | []=>rfl
 |b::l=>by
  unfold Go.Lib.index posOf
  have hp:([c]:List UInt8).isPrefixOf (b::l)=(b==c):=by
   rw[List.isPrefixOf_cons_cons,List.isPrefixOf_nil_left,Bool.and_true]
   rw[Bool.eq_iff_iff,beq_iff_eq,beq_iff_eq];exact eq_comm
  rw[hp,index_one c l]
  cases b==c with
  |true=>rfl
  |false=>
   simp only[Bool.false_eq_true,if_false]
   cases posOf c l with
   |none=>rfl
   |some i=>
    simp only
    rw[if_neg (by rw[beq_iff_eq];omega)];rfl
theorem zlt(c:UInt8):∀ (k:Nat) (s:List UInt8),s.length<=k->Go.Lib.splitK [c] 0 (Go.Lib.count s [c]) s=zaG c s
 |0,s,h=>by
  have:s=[]:=List.eq_nil_of_length_eq_zero (by omega)
  subst this
  rw[Go.Lib.count_miss (by rfl)];rfl
 |k+1,s,h=>by
  cases hp:posOf c s with
  |none=>
   rw[Go.Lib.count_miss (by rw[index_one,hp]),zhO hp];rfl
  |some i=>
   have hi:=zar hp
   have hix:Go.Lib.index s [c]=((i:Nat):Int):=by rw[index_one,hp]
   rw[Go.Lib.count_hit (by simp) hix,Nat.add_comm 1]
   unfold Go.Lib.splitK
   rw[if_neg (by rw[hix,beq_iff_eq];omega),hix,Int.toNat_natCast,zhP hp]
   rw[Nat.add_zero]
   congr 1
   exact zlt c k (s.drop (i+1)) (by rw[List.length_drop];omega)
theorem zmI(c:UInt8)(s:List UInt8):kV s [c]=zaG c s:=by
 unfold kV
 rw[Go.Lib.splitB_data]
 exact zlt c s.length s (Nat.le_refl _)
theorem ziS(c:UInt8):∀ l:List UInt8,0<(zaG c l).length/\(zaG c l).length<=l.length+1/\∀ p ∈ zaG c l,p.length<=l.length
 | []=>⟨by simp [zaG],by simp [zaG],by simp [zaG]⟩
 |x::l=>by
  obtain⟨h1,h2,h3⟩:=ziS c l
  unfold zaG
  split
  ·refine⟨by simp,by simp;omega,fun p hp=>?_⟩
   simp only[List.mem_cons] at hp
   rcases hp with rfl|hp
   ·simp
   ·have:=h3 p hp;simp;omega
  ·split
   ·rename_i h t he
    rw[he] at h1 h2 h3
    refine⟨by simp,by simp at h2 |-;omega,fun p hp=>?_⟩
    simp only[List.mem_cons] at hp
    rcases hp with rfl|hp
    ·have:=h3 h (by simp);simp;omega
    ·have:=h3 p (by simp [hp]);simp;omega
   ·rename_i he
    rw[he] at h1;simp at h1

def flA:List UInt8:=[92,65,78,83,87,69,82,69,68]
def flF:List UInt8:=[92,70,76,65,71,71,69,68]
def flD:List UInt8:=[92,68,69,76,69,84,69,68]
def flE:List UInt8:=[92,83,69,69,78]
def flR:List UInt8:=[92,68,82,65,70,84]
def flT:List (List UInt8×UInt8):=[(flA,1),(flF,2),(flD,4),(flE,8),(flR,16)]
end Go.Proofs.Model
