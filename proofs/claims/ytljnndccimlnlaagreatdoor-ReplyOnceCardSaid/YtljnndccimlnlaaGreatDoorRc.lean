/- The reader's number. -/
import Derived.Test.YtljnndccimlnlaaGreatDoorRb
set_option linter.unusedVariables false
set_option linter.unusedSimpArgs false
set_option maxRecDepth 100000
namespace Go.Proofs.Model
open Go Go.Gx Go.Mx Go.Sx
theorem zqg (N:Nat):∀ (m:Nat) (r:List UInt8) (i:Int),zw N m r i=zn N m r i
 | 0,r,i=>rfl
 | m + 1,r,i=>by
  unfold zw zn
  rw [show zw N m=zn N m from funext fun r=>funext fun i=>zqg N m r i]
  rfl
theorem zs4 (N:Nat) (r:Int):zL N r=some (decide (r < 48) || decide (57 < r),()):=by
 unfold zL
 cases decide (r < 48) <;> rfl
theorem zoz (N:Nat) (hN:0 < N) {r:List UInt8} (hr:r.length <= 100000) {i:Nat} (hi:i < r.length) (m:Nat):
  zn N (m + 1) r (i:Int)=if zrt r[i] then zn N m r ((i + 1:Nat):Int) else some (.inl (i:Int)):=by
 conv=>lhs;unfold zn qq
 simp only [zoh hi,cond_true,ze4 (Nat.le_of_lt hi),Bool.and_self,Int.toNat_natCast,zdf,drop_one hi]
 generalize r[i]=c
 rcases Nat.lt_or_ge c.toNat 128 with hc | hc
 ·rw [zpf N c _ hc hN]
  simp only [Option.bind_some,zs4]
  unfold zrt
  by_cases h1:48 <= c.toNat
  ·by_cases h2:c.toNat <= 57
   ·rw [decide_eq_false (show ¬ ((c.toNat:Nat):Int) < 48 by omega),decide_eq_false (show ¬ (57:Int) < ((c.toNat:Nat):Int) by omega),decide_eq_true h1,decide_eq_true h2]
    simp only [Bool.or_self,Bool.and_self,if_true,show (false == true)=false from rfl,cond_false]
    rw [wri (by omega) (by omega),show (i:Int) + 1=((i + 1:Nat):Int) by omega]
   ·rw [decide_eq_true (show (57:Int) < ((c.toNat:Nat):Int) by omega),decide_eq_false h2]
    simp
  ·rw [decide_eq_true (show ((c.toNat:Nat):Int) < 48 by omega),decide_eq_false h1]
   simp
 ·obtain ⟨x,sz,h1,h2⟩:=znn N c (r.drop (i + 1)) hc hN
  rw [h1]
  simp only [Option.bind_some,zs4]
  unfold zrt
  rw [decide_eq_true h2,decide_eq_false (show ¬ c.toNat <= 57 by omega)]
  simp
theorem zqL (N:Nat) {r:List UInt8} (m:Nat):zn N (m + 1) r ((r.length:Nat):Int)=some (.inr ()):=by
 unfold zn qq
 rw [decide_eq_false (by omega)];rfl
theorem zpG (N:Nat) (hN:0 < N) {r:List UInt8} (hr:r.length <= 100000):∀ (m i:Nat),i <= r.length -> r.length < m + i -> (∃ k:Nat,k <= r.length /\ zn N m r (i:Int)=some (.inl (k:Int))) \/ zn N m r (i:Int)=some (.inr ())
 | 0,i,h,h2=>by omega
 | m + 1,i,h,h2=>by
  rcases Nat.lt_or_ge i r.length with hi | hi
  ·rw [zoz N hN hr hi]
   split
   ·exact zpG N hN hr m (i + 1) (by omega) (by omega)
   ·exact .inl ⟨i,h,rfl⟩
  ·obtain rfl:i=r.length:=by omega
   exact .inr (zqL N m)
theorem zfa (N:Nat) {b:List UInt8} (hb:b.length <= 100000) (hN:b.length < N) (hN2:10 <= N) {i:Nat} (hi:i <= b.length):∃ j:Nat,j <= b.length /\ ∃ n ok,zr N (b,(i:Int))=some ((b,(j:Int)),n,ok,()) /\ 0 <= n /\ n < 4294967296:=by
 have h:At b i (b.drop i):=⟨hi,rfl⟩
 have hl:(b.drop i).length=b.length - i:=by rw [List.length_drop]
 generalize b.drop i=r at h hl
 have hr:r.length <= 100000:=by omega
 have hnum:∀ s:List UInt8,s.length <= 100000 -> ∃ n ok,qy N s=some (n,ok,()) /\ 0 <= n /\ n < 4294967296:=fun s hs=>by
  rw [zkC N hN2 s hs];unfold ztt
  split
  ·rename_i v hv;have:=znN hv;exact ⟨_,_,rfl,by omega,by omega⟩
  ·exact ⟨_,_,rfl,by omega,by omega⟩
 have hb0:jS (0:Int) ((r.length:Nat):Int) r.length=true:=zas (a:=0) (Nat.zero_le _) (Nat.le_refl _)
 have htk:∀ k:Nat,(slice r 0 k).length <= 100000:=fun k=>Nat.le_trans zao hr
 unfold zr
 simp only [zcS N h,Option.bind_some,zqg]
 rcases zpG N (by omega) hr N 0 (Nat.zero_le _) (by omega) with ⟨k,hk,he⟩ | he
 ·rw [show ((0:Nat):Int)=(0:Int) from rfl] at he
  have hk0:decide ((k:Int) < 0)=false:=by simp
  have hbk:jS (0:Int) ((k:Nat):Int) r.length=true:=zas (a:=0) (Nat.zero_le _) hk
  simp only [he,Option.bind_some,zz,hk0,cond_false,hbk,Bool.and_self,cond_true,Int.toNat_natCast]
  obtain ⟨n,ok,hn,hn1,hn2⟩:=hnum _ (htk k)
  rw [hn]
  simp only [Option.bind_some]
  cases ok with
  | true=>exact ⟨i + k,by omega,n,true,by simp only [cond_true];rw [wri (by omega) (by omega),Int.natCast_add],hn1,hn2⟩
  | false=>exact ⟨i,hi,n,false,rfl,hn1,hn2⟩
 ·rw [show ((0:Nat):Int)=(0:Int) from rfl] at he
  simp only [he,Option.bind_some,zz,hb0,Bool.and_self,cond_true,Int.toNat_natCast]
  obtain ⟨n,ok,hn,hn1,hn2⟩:=hnum _ (htk r.length)
  rw [hn]
  simp only [Option.bind_some]
  cases ok with
  | true=>exact ⟨i + r.length,by omega,n,true,by simp only [cond_true];rw [wri (by omega) (by omega),Int.natCast_add],hn1,hn2⟩
  | false=>exact ⟨i,hi,n,false,rfl,hn1,hn2⟩
end Go.Proofs.Model
