/- Valid responses. -/
import Derived.Test.YtljnndccimlnlaaGreatDoorRd
set_option linter.unusedVariables false
set_option linter.unusedSimpArgs false
set_option maxRecDepth 100000
namespace Go.Proofs.Model
open Go Go.Gx Go.Mx Go.Sx
abbrev Rsp:=El uR1
theorem zkl (N:Nat) (s:List UInt8) (hs:s.length <= 100000):∀ (m i:Nat),i <= s.length -> s.length < m + i ->
  qm N m s (i:Int)=some (if (s.drop i).all xF=true then Sum.inr s else Sum.inl ())
 | 0,i,h,h'=>by omega
 | m + 1,i,h,h'=>by
  unfold qm kQ
  by_cases hi:i < s.length
  ·simp only [zoh hi,cond_true,jr hi,Int.toNat_natCast,zd1 (u:=.u8) hi,zuj,Option.bind_some]
   rw [wri (by omega) (by omega),show ((i:Int) + 1)=((i + 1:Nat):Int) by omega,drop_one hi,List.all_cons]
   cases xF s[i] with
   | false=>rfl
   | true=>simp only [Bool.not_true,cond_false,Bool.true_and];exact zkl N s hs m (i + 1) (by omega) (by omega)
  ·rw [zpY hi,List.drop_of_length_le (by omega)];rfl
theorem zkI (N:Nat) (s:List UInt8) (hs:s.length <= 100000):∀ (m i:Nat),i <= s.length -> s.length < m + i ->
  qu N m s (i:Int)=some (if (s.drop i).all zfh=true then Sum.inr s else Sum.inl ())
 | 0,i,h,h'=>by omega
 | m + 1,i,h,h'=>by
  unfold qu xN
  by_cases hi:i < s.length
  ·simp only [zoh hi,cond_true,jr hi,Int.toNat_natCast,zd1 (u:=.u8) hi,zvd,Option.bind_some]
   rw [wri (by omega) (by omega),show ((i:Int) + 1)=((i + 1:Nat):Int) by omega,drop_one hi,List.all_cons]
   cases zfh s[i] with
   | false=>rfl
   | true=>simp only [Bool.not_true,cond_false,Bool.true_and];exact zkI N s hs m (i + 1) (by omega) (by omega)
  ·rw [zpY hi,List.drop_of_length_le (by omega)];rfl
def za1 (s:List UInt8):Bool:=s != [] && s.all xF
def zpi (s:List UInt8):Bool:=s != [] && s.all zfh
theorem zqu (s:List UInt8) (hs:s.length <= 100000):zp 200000 s=some (za1 s,()):=by
 unfold zp za1
 have:=zkl 200000 s hs 200000 0 (Nat.zero_le _) (by omega)
 rw [List.drop_zero,show ((0:Nat):Int)=(0:Int) from rfl] at this
 rw [this]
 cases h:s.all xF with
 | true=>simp
 | false=>simp
theorem zqT (s:List UInt8) (hs:s.length <= 100000):zG 200000 s=some (zpi s,()):=by
 unfold zG zpi
 have:=zkI 200000 s hs 200000 0 (Nat.zero_le _) (by omega)
 rw [List.drop_zero,show ((0:Nat):Int)=(0:Int) from rfl] at this
 rw [this]
 cases h:s.all zfh with
 | true=>simp
 | false=>simp
theorem zkP (N:Nat) (s:List UInt8) (hs:s.length <= 100000):∀ (m i:Nat),i <= s.length -> s.length < m + i ->
  qk N m s ((s.length:Nat):Int) (i:Int)=some (if (s.drop i).all xF=true then Sum.inr () else Sum.inl ())
 | 0,i,h,h'=>by omega
 | m + 1,i,h,h'=>by
  unfold qk xj
  by_cases hi:i < s.length
  ·simp only [zoh hi,cond_true,jr hi,Int.toNat_natCast,zd1 (u:=.u8) hi,zst,Option.bind_some]
   rw [wri (by omega) (by omega),show ((i:Int) + 1)=((i + 1:Nat):Int) by omega,drop_one hi,List.all_cons]
   cases xF s[i] with
   | false=>rfl
   | true=>simp only [Bool.not_true,cond_false,Bool.true_and];exact zkP N s hs m (i + 1) (by omega) (by omega)
  ·rw [zpY hi,List.drop_of_length_le (by omega)];rfl
theorem zkJ (N:Nat) (s:List UInt8) (hs:s.length <= 100000):∀ (m i:Nat),i <= s.length -> s.length < m + i ->
  zW N m s ((s.length:Nat):Int) (i:Int)=some (if (s.drop i).all zfh=true then Sum.inr () else Sum.inl ())
 | 0,i,h,h'=>by omega
 | m + 1,i,h,h'=>by
  unfold zW wR
  by_cases hi:i < s.length
  ·simp only [zoh hi,cond_true,jr hi,Int.toNat_natCast,zd1 (u:=.u8) hi,zvz,Option.bind_some]
   rw [wri (by omega) (by omega),show ((i:Int) + 1)=((i + 1:Nat):Int) by omega,drop_one hi,List.all_cons]
   cases zfh s[i] with
   | false=>rfl
   | true=>simp only [Bool.not_true,cond_false,Bool.true_and];exact zkJ N s hs m (i + 1) (by omega) (by omega)
  ·rw [zpY hi,List.drop_of_length_le (by omega)];rfl
theorem zky (N:Nat) (s:List UInt8) (hs:s.length <= 100000):∀ (m i:Nat),i <= s.length -> s.length < m + i ->
  zX N m s ((s.length:Nat):Int) (i:Int)=some (if (s.drop i).all xF=true then Sum.inr () else Sum.inl ())
 | 0,i,h,h'=>by omega
 | m + 1,i,h,h'=>by
  unfold zX wQ
  by_cases hi:i < s.length
  ·simp only [zoh hi,cond_true,jr hi,Int.toNat_natCast,zd1 (u:=.u8) hi,zst,Option.bind_some]
   rw [wri (by omega) (by omega),show ((i:Int) + 1)=((i + 1:Nat):Int) by omega,drop_one hi,List.all_cons]
   cases xF s[i] with
   | false=>rfl
   | true=>simp only [Bool.not_true,cond_false,Bool.true_and];exact zky N s hs m (i + 1) (by omega) (by omega)
  ·rw [zpY hi,List.drop_of_length_le (by omega)];rfl
theorem zkq (N:Nat) (a b:List UInt8) (hl:a.length=b.length) (ha:a.length <= 100000):∀ (m i:Nat),i <= a.length -> a.length < m + i ->
  zD N m a b ((a.length:Nat):Int) (i:Int)=some (if a.drop i=b.drop i then Sum.inr () else Sum.inl ())
 | 0,i,h,h'=>by omega
 | m + 1,i,h,h'=>by
  unfold zD qX
  by_cases hi:i < a.length
  ·have hj:i < b.length:=by omega
   simp only [zoh hi,cond_true,jr hi,jr hj,Int.toNat_natCast,zd1 (u:=.u8) hi,zd1 (u:=.u8) hj]
   rw [wri (by omega) (by omega),show ((i:Int) + 1)=((i + 1:Nat):Int) by omega,drop_one hi,drop_one hj]
   by_cases e:a[i]=b[i]
   ·rw [show (a[i] != b[i])=false by rw [bne_eq_false_iff_eq];exact e,cond_false,zkq N a b hl ha m (i + 1) (by omega) (by omega),e]
    simp only [List.cons.injEq,true_and]
   ·rw [show (a[i] != b[i])=true by rw [bne_iff_ne];exact e,cond_true,if_neg (fun q=>e (List.cons.inj q).1)]
  ·rw [zpY hi,List.drop_of_length_le (by omega),List.drop_of_length_le (by omega)];rfl
theorem zkk (a b:List UInt8) (ha:a.length <= 100000) (hb:b.length <= 100000):zO 200000 a b=some (a == b,()):=by
 unfold zO
 by_cases hl:a.length=b.length
 ·rw [show ((((List.length a):Nat):Int) != (((List.length b):Nat):Int))=false by rw [bne_eq_false_iff_eq];omega]
  have:=zkq 200000 a b hl ha 200000 0 (Nat.zero_le _) (by omega)
  rw [List.drop_zero,List.drop_zero,show ((0:Nat):Int)=(0:Int) from rfl] at this
  rw [this]
  by_cases e:a=b
  ·rw [if_pos e,show (a == b)=true by rw [beq_iff_eq];exact e];rfl
  ·rw [if_neg e,show (a == b)=false by rw [beq_eq_false_iff_ne];exact e];rfl
 ·rw [show ((((List.length a):Nat):Int) != (((List.length b):Nat):Int))=true by rw [bne_iff_ne];omega,show (a == b)=false by rw [beq_eq_false_iff_ne];exact fun e=>hl (by rw [e])]
  rfl
def zad (a b:Rsp):Bool:=a.1 == b.1 && (a.2.1 == b.2.1 && (a.2.2.1 == b.2.2.1 && (a.2.2.2.1 == b.2.2.2.1 && (a.2.2.2.2.1 == b.2.2.2.2.1 && (a.2.2.2.2.2.1 == b.2.2.2.2.2.1 && (a.2.2.2.2.2.2.1 == b.2.2.2.2.2.2.1 && (a.2.2.2.2.2.2.2.1 == b.2.2.2.2.2.2.2.1 && (a.2.2.2.2.2.2.2.2.1 == b.2.2.2.2.2.2.2.2.1 && a.2.2.2.2.2.2.2.2.2 == b.2.2.2.2.2.2.2.2.2))))))))
theorem qJ {a b:Rsp}:zad a b=true ↔ a=b:=by
 obtain ⟨a1,a2,a3,a4,a5,a6,a7,a8,a9,a10⟩:=a
 obtain ⟨b1,b2,b3,b4,b5,b6,b7,b8,b9,b10⟩:=b
 unfold zad
 simp only [Bool.and_eq_true]
 constructor
 ·rintro ⟨h1,h2,h3,h4,h5,h6,h7,h8,h9,h10⟩
  rw [eq_of_beq h1,eq_of_beq h2,eq_of_beq h3,eq_of_beq h4,eq_of_beq h5,eq_of_beq h6,eq_of_beq h7,eq_of_beq h8,eq_of_beq h9,eq_of_beq h10]
 ·intro h
  cases h
  simp only [beq_self_eq_true,and_self]
theorem zpR (c d:Bool) (x:Option (Bool × Unit)) (y:Bool) (h:x=some (y,())):cond c x (some (false,()))=some (c && y,()):=by cases c <;> simp [h]
theorem zoB (N:Nat) (a b:Rsp):zb N a b=some (zad a b,()):=by
 unfold zb zad
 repeat' (first | rfl | refine zpR _ true _ _ ?_)
theorem zbb (a b:Rsp) (ha:a.2.2.2.2.2.2.2.2.2.length <= 100000) (hb:b.2.2.2.2.2.2.2.2.2.length <= 100000):zH 200000 a b=some (zad a b,()):=by
 unfold zH zad
 rw [zkk _ _ ha hb]
 repeat' (first | rfl | refine zpR _ true _ _ ?_)
def bI (it k:Int):Bool:=zd .and .i64 it k != 0
def itB (b1 b2 b4 b16:Bool):Int:=(cond b1 1 0) + (cond b2 2 0) + (cond b4 4 0) + (cond b16 16 0)
theorem zko (b1 b2 b4 b16:Bool):bI (itB b1 b2 b4 b16) 1=b1 /\ bI (itB b1 b2 b4 b16) 2=b2 /\ bI (itB b1 b2 b4 b16) 4=b4 /\ bI (itB b1 b2 b4 b16) 16=b16 /\ bI (itB b1 b2 b4 b16) 8=false:=by
 cases b1 <;> cases b2 <;> cases b4 <;> cases b16 <;> decide
theorem zpN {it:Int} (h1:1 <= it) (h2:it <= 31) (h8:bI it 8=false):it=itB (bI it 1) (bI it 2) (bI it 4) (bI it 16):=by
 obtain ⟨n,rfl⟩:∃ n:Nat,it=n:=⟨it.toNat,by omega⟩
 have key:((List.range 32).all fun n=>bI n 8 || (n == 0) || ((n:Int) == itB (bI n 1) (bI n 2) (bI n 4) (bI n 16)))=true:=by kernel_rfl
 have:=List.all_eq_true.1 key n (List.mem_range.2 (by omega))
 rw [h8] at this
 simp only [Bool.false_or,Bool.or_eq_true,beq_iff_eq] at this
 rcases this with h | h
 ·omega
 ·exact h
inductive VR:Rsp -> Prop where
 | num (k n:Int) (h:k=1 \/ k=2 \/ k=3):VR (k,(n,([],(0,([],(0,(0,(0,(0,[])))))))))
 | fet (n:Int) (b1 b2 b4 b16:Bool) (fl:UInt8) (uid sz:Int) (body:List UInt8) (h0:itB b1 b2 b4 b16 ≠ 0) (h1:fl <= 31) (h2:body.length <= 65536) (z1:b1=false -> fl=0) (z2:b2=false -> uid=0) (z4:b4=false -> sz=0) (z16:b16=false -> body=[]):
   VR (4,(n,([],(0,([],(itB b1 b2 b4 b16,(fl,(uid,(sz,body)))))))))
 | fls:VR (5,(0,([],(0,([],(0,(0,(0,(0,[])))))))))
 | txt (k:Int) (t:List UInt8) (h:k=6 \/ k=7 \/ k=8 \/ k=10) (ht:za1 t=true):VR (k,(0,([],(0,(t,(0,(0,(0,(0,[])))))))))
 | tag (g t:List UInt8) (s:Int) (hg:zpi g=true) (ht:za1 t=true) (h0:0 <= s) (h2:s <= 2):VR (9,(0,(g,(s,(t,(0,(0,(0,(0,[])))))))))
end Go.Proofs.Model
