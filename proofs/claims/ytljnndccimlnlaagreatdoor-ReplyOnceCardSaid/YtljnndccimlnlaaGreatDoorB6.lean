/- The machines and the plain laws, part 6. -/
import Derived.Test.YtljnndccimlnlaaGreatDoorB5
set_option linter.unusedVariables false
set_option linter.unusedSimpArgs false
set_option maxRecDepth 100000
namespace Go.Proofs.Model
open Go Go.Gx Go.Mx Go.Sx
def up (c:UInt8):UInt8:=cond (decide ((97:UInt8) <= c)) (cond (decide (c <= (122:UInt8))) (c - 32) c) c
theorem zr4 (c:UInt8) (h1:decide ((97:UInt8) <= c)=true) (h2:decide (c <= (122:UInt8))=true):c &&& ~~~(32:UInt8)=c - 32:=by
 have key:∀ n:Fin 256,decide ((97:UInt8) <= UInt8.ofNat n.val)=true -> decide (UInt8.ofNat n.val <= (122:UInt8))=true -> UInt8.ofNat n.val &&& ~~~(32:UInt8)=UInt8.ofNat n.val - 32:=by decide +kernel
 have:=key ⟨c.toNat,c.toNat_lt⟩
 simp only [UInt8.ofNat_toNat] at this
 exact this h1 h2
theorem zss {s:List UInt8} {i:Nat} (h:i < s.length):((s.take i).map up ++ s.drop i).set i (up s[i])=(s.take (i + 1)).map up ++ s.drop (i + 1):=by
 have hl:((s.take i).map up).length=i:=by rw [List.length_map,List.length_take];omega
 rw [List.set_append,if_neg (by omega),hl,Nat.sub_self,drop_one h,List.set_cons_zero,List.take_succ_eq_append_getElem h,List.map_append,List.append_assoc]
 rfl
theorem zsD {s:List UInt8} {i:Nat} (h:i < s.length):nth .u8 ((s.take i).map up ++ s.drop i) i=s[i]:=by
 have hl:((s.take i).map up).length=i:=by rw [List.length_map,List.length_take];omega
 have h2:i < ((s.take i).map up ++ s.drop i).length:=by rw [List.length_append,hl,List.length_drop];omega
 rw [show nth .u8 ((s.take i).map up ++ s.drop i) i=((s.take i).map up ++ s.drop i)[i] from zd1 h2,List.getElem_append_right (by omega)]
 simp only [hl,Nat.sub_self,List.getElem_drop,Nat.add_zero]
theorem zgM (N:Nat) (s:List UInt8) (hs:s.length <= 100000):∀ (m i:Nat),i <= s.length -> s.length < m + i ->
  qI N m (s.length:Int) (i:Int) ((s.take i).map up ++ s.drop i)=some (s.map up)
 | 0,i,h,h'=>by omega
 | m + 1,i,h,h'=>by
  unfold qI zap
  by_cases hi:i < s.length
  ·have hlen:i < ((s.take i).map up ++ s.drop i).length:=by rw [List.length_append,List.length_map,List.length_take,List.length_drop];omega
   have hn:nth .u8 ((s.take i).map up ++ s.drop i) (Int.toNat (i:Int))=s[i]:=by rw [Int.toNat_natCast];exact zsD hi
   simp only [zoh hi,cond_true,jr hlen]
   generalize nth .u8 ((s.take i).map up ++ s.drop i) (Int.toNat (i:Int))=c at hn |-
   subst hn
   rw [Int.toNat_natCast,wri (by omega) (by omega),show ((i:Int) + 1)=((i + 1:Nat):Int) by omega]
   have ih:=zgM N s hs m (i + 1) (by omega) (by omega)
   rw [<- zss hi] at ih
   cases h1:decide ((97:UInt8) <= s[i]) with
   | true=>
    cases h2:decide (s[i] <= (122:UInt8)) with
    | true=>
     simp only [cond_true]
     rw [zr4 _ h1 h2]
     simpa only [up,h1,h2,cond_true] using ih
    | false=>
     simp only [cond_true,cond_false]
     simpa only [up,h1,h2,cond_true,cond_false] using ih
   | false=>
    simp only [cond_false]
    simpa only [up,h1,cond_false] using ih
  ·rw [zpY hi,List.take_of_length_le (by omega),List.drop_of_length_le (by omega),List.append_nil];rfl
def wZ (c:UInt8):List UInt8 -> List (List UInt8)
 | []=>[[]]
 | x :: l=>if x == c then [] :: wZ c l else match wZ c l with
  | h :: t=>(x :: h) :: t
  | []=>[[x]]
theorem zfL {c:UInt8}:∀ {l:List UInt8},posOf c l=none -> wZ c l=[l]
 | [],h=>rfl
 | x :: l,h=>by
  unfold posOf at h
  unfold wZ
  cases hx:x == c with
  | true=>simp only [hx,if_true] at h;cases h
  | false=>
   simp only [hx,Bool.false_eq_true,if_false] at h |-
   split at h
   ·cases h
   ·rename_i hn;rw [zfL hn]
theorem zfg {c:UInt8}:∀ {l:List UInt8} {i:Nat},posOf c l=some i -> wZ c l=l.take i :: wZ c (l.drop (i + 1))
 | [],i,h=>by cases h
 | x :: l,i,h=>by
  unfold posOf at h
  conv=>lhs;unfold wZ
  cases hx:x == c with
  | true=>simp only [hx,if_true] at h |-;cases h;rfl
  | false=>
   simp only [hx,Bool.false_eq_true,if_false] at h |-
   split at h
   ·rename_i j hj
    cases h
    rw [zfg hj];rfl
   ·cases h
theorem index_one (c:UInt8):∀ l:List UInt8,Go.Lib.index l [c]=match posOf c l with
  | some i=>((i:Nat):Int)
  | none=>-1
 | []=>rfl
 | b :: l=>by
  unfold Go.Lib.index posOf
  have hp:([c]:List UInt8).isPrefixOf (b :: l)=(b == c):=by
   rw [List.isPrefixOf_cons_cons,List.isPrefixOf_nil_left,Bool.and_true]
   rw [Bool.eq_iff_iff,beq_iff_eq,beq_iff_eq];exact eq_comm
  rw [hp,index_one c l]
  cases b == c with
  | true=>rfl
  | false=>
   simp only [Bool.false_eq_true,if_false]
   cases posOf c l with
   | none=>rfl
   | some i=>
    simp only
    rw [if_neg (by rw [beq_iff_eq];omega)];rfl
theorem ziM (c:UInt8):∀ (k:Nat) (s:List UInt8),s.length <= k -> Go.Lib.splitK [c] 0 (Go.Lib.count s [c]) s=wZ c s
 | 0,s,h=>by
  have:s=[]:=List.eq_nil_of_length_eq_zero (by omega)
  subst this
  rw [Go.Lib.count_miss (by rfl)];rfl
 | k + 1,s,h=>by
  cases hp:posOf c s with
  | none=>
   rw [Go.Lib.count_miss (by rw [index_one,hp]),zfL hp];rfl
  | some i=>
   have hi:=zdL hp
   have hix:Go.Lib.index s [c]=((i:Nat):Int):=by rw [index_one,hp]
   rw [Go.Lib.count_hit (by simp) hix,Nat.add_comm 1]
   unfold Go.Lib.splitK
   rw [if_neg (by rw [hix,beq_iff_eq];omega),hix,Int.toNat_natCast,zfg hp]
   rw [Nat.add_zero]
   congr 1
   exact ziM c k (s.drop (i + 1)) (by rw [List.length_drop];omega)
theorem zjU (c:UInt8) (s:List UInt8):jf s [c]=wZ c s:=by
 unfold jf
 rw [Go.Lib.splitB_data]
 exact ziM c s.length s (Nat.le_refl _)
theorem zgP (c:UInt8):∀ l:List UInt8,0 < (wZ c l).length /\ (wZ c l).length <= l.length + 1 /\ ∀ p ∈ wZ c l,p.length <= l.length
 | []=>⟨by simp [wZ],by simp [wZ],by simp [wZ]⟩
 | x :: l=>by
  obtain ⟨h1,h2,h3⟩:=zgP c l
  unfold wZ
  split
  ·refine ⟨by simp,by simp;omega,fun p hp=>?_⟩
   simp only [List.mem_cons] at hp
   rcases hp with rfl | hp
   ·simp
   ·have:=h3 p hp;simp;omega
  ·split
   ·rename_i h t he
    rw [he] at h1 h2 h3
    refine ⟨by simp,by simp at h2 |-;omega,fun p hp=>?_⟩
    simp only [List.mem_cons] at hp
    rcases hp with rfl | hp
    ·have:=h3 h (by simp);simp;omega
    ·have:=h3 p (by simp [hp]);simp;omega
   ·rename_i he
    rw [he] at h1;simp at h1

def flA:List UInt8:=[92,65,78,83,87,69,82,69,68]
def flF:List UInt8:=[92,70,76,65,71,71,69,68]
def flD:List UInt8:=[92,68,69,76,69,84,69,68]
def flE:List UInt8:=[92,83,69,69,78]
def flR:List UInt8:=[92,68,82,65,70,84]
def flT:List (List UInt8 × UInt8):=[(flA,1),(flF,2),(flD,4),(flE,8),(flR,16)]
end Go.Proofs.Model
