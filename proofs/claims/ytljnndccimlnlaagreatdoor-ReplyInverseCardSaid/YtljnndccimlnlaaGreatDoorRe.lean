/- Valid responses. -/
import Derived.Test.YtljnndccimlnlaaGreatDoorRd
set_option linter.unusedVariables false
set_option linter.unusedSimpArgs false
set_option maxRecDepth 100000
namespace Go.Proofs.Model
open Go Go.Gx Go.Mx Go.Sx
abbrev Rsp:=El uR1
theorem znf(N:Nat)(s:List UInt8)(hs:s.length<=100000):∀ (m i:Nat),i<=s.length->s.length<m+i ->
  qz N m s (i:Int)=some (if(s.drop i).all zbp=true then Sum.inr s else Sum.inl ())
 |0,i,h,h'=>by omega
 |m+1,i,h,h'=>by
  unfold qz za6
  by_cases hi:i<s.length
  ·simp only[zh8 hi,cond_true,jJ hi,Int.toNat_natCast,zad (u:=.u8) hi,zx5,Option.bind_some]
   rw[wri (by omega) (by omega),show((i:Int)+1)=((i+1:Nat):Int) by omega,drop_one hi,List.all_cons]
   cases zbp s[i] with
   |false=>rfl
   |true=>simp only[Bool.not_true,cond_false,Bool.true_and];exact znf N s hs m (i+1) (by omega) (by omega)
  ·rw[zjy hi,List.drop_of_length_le (by omega)];rfl
theorem zne(N:Nat)(s:List UInt8)(hs:s.length<=100000):∀ (m i:Nat),i<=s.length->s.length<m+i ->
  qR N m s (i:Int)=some (if(s.drop i).all zeV=true then Sum.inr s else Sum.inl ())
 |0,i,h,h'=>by omega
 |m+1,i,h,h'=>by
  unfold qR zbC
  by_cases hi:i<s.length
  ·simp only[zh8 hi,cond_true,jJ hi,Int.toNat_natCast,zad (u:=.u8) hi,zyR,Option.bind_some]
   rw[wri (by omega) (by omega),show((i:Int)+1)=((i+1:Nat):Int) by omega,drop_one hi,List.all_cons]
   cases zeV s[i] with
   |false=>rfl
   |true=>simp only[Bool.not_true,cond_false,Bool.true_and];exact zne N s hs m (i+1) (by omega) (by omega)
  ·rw[zjy hi,List.drop_of_length_le (by omega)];rfl
def zby(s:List UInt8):Bool:=s != []&&s.all zbp
def zpn(s:List UInt8):Bool:=s != []&&s.all zeV
theorem zum(s:List UInt8)(hs:s.length<=100000):zv 200000 s=some (zby s,()):=by
 unfold zv zby
 have:=znf 200000 s hs 200000 0 (Nat.zero_le _) (by omega)
 rw[List.drop_zero,show((0:Nat):Int)=(0:Int) from rfl] at this
 rw[this]
 cases h:s.all zbp with
 |true=>simp
 |false=>simp
theorem zul(s:List UInt8)(hs:s.length<=100000):qb 200000 s=some (zpn s,()):=by
 unfold qb zpn
 have:=zne 200000 s hs 200000 0 (Nat.zero_le _) (by omega)
 rw[List.drop_zero,show((0:Nat):Int)=(0:Int) from rfl] at this
 rw[this]
 cases h:s.all zeV with
 |true=>simp
 |false=>simp
theorem znE(N:Nat)(s:List UInt8)(hs:s.length<=100000):∀ (m i:Nat),i<=s.length->s.length<m+i ->
  qD N m s ((s.length:Nat):Int) (i:Int)=some (if(s.drop i).all zbp=true then Sum.inr () else Sum.inl ())
 |0,i,h,h'=>by omega
 |m+1,i,h,h'=>by
  unfold qD zbb
  by_cases hi:i<s.length
  ·simp only[zh8 hi,cond_true,jJ hi,Int.toNat_natCast,zad (u:=.u8) hi,zxg,Option.bind_some]
   rw[wri (by omega) (by omega),show((i:Int)+1)=((i+1:Nat):Int) by omega,drop_one hi,List.all_cons]
   cases zbp s[i] with
   |false=>rfl
   |true=>simp only[Bool.not_true,cond_false,Bool.true_and];exact znE N s hs m (i+1) (by omega) (by omega)
  ·rw[zjy hi,List.drop_of_length_le (by omega)];rfl
theorem znC(N:Nat)(s:List UInt8)(hs:s.length<=100000):∀ (m i:Nat),i<=s.length->s.length<m+i ->
  qe N m s ((s.length:Nat):Int) (i:Int)=some (if(s.drop i).all zeV=true then Sum.inr () else Sum.inl ())
 |0,i,h,h'=>by omega
 |m+1,i,h,h'=>by
  unfold qe zaz
  by_cases hi:i<s.length
  ·simp only[zh8 hi,cond_true,jJ hi,Int.toNat_natCast,zad (u:=.u8) hi,zyQ,Option.bind_some]
   rw[wri (by omega) (by omega),show((i:Int)+1)=((i+1:Nat):Int) by omega,drop_one hi,List.all_cons]
   cases zeV s[i] with
   |false=>rfl
   |true=>simp only[Bool.not_true,cond_false,Bool.true_and];exact znC N s hs m (i+1) (by omega) (by omega)
  ·rw[zjy hi,List.drop_of_length_le (by omega)];rfl
theorem znF(N:Nat)(s:List UInt8)(hs:s.length<=100000):∀ (m i:Nat),i<=s.length->s.length<m+i ->
  qf N m s ((s.length:Nat):Int) (i:Int)=some (if(s.drop i).all zbp=true then Sum.inr () else Sum.inl ())
 |0,i,h,h'=>by omega
 |m+1,i,h,h'=>by
  unfold qf zaA
  by_cases hi:i<s.length
  ·simp only[zh8 hi,cond_true,jJ hi,Int.toNat_natCast,zad (u:=.u8) hi,zxg,Option.bind_some]
   rw[wri (by omega) (by omega),show((i:Int)+1)=((i+1:Nat):Int) by omega,drop_one hi,List.all_cons]
   cases zbp s[i] with
   |false=>rfl
   |true=>simp only[Bool.not_true,cond_false,Bool.true_and];exact znF N s hs m (i+1) (by omega) (by omega)
  ·rw[zjy hi,List.drop_of_length_le (by omega)];rfl
theorem zm6(N:Nat)(a b:List UInt8)(hl:a.length=b.length)(ha:a.length<=100000):∀ (m i:Nat),i<=a.length->a.length<m+i ->
  zI N m a b ((a.length:Nat):Int) (i:Int)=some (if a.drop i=b.drop i then Sum.inr () else Sum.inl ())
 |0,i,h,h'=>by omega
 |m+1,i,h,h'=>by
  unfold zI kJ
  by_cases hi:i<a.length
  ·have hj:i<b.length:=by omega
   simp only[zh8 hi,cond_true,jJ hi,jJ hj,Int.toNat_natCast,zad (u:=.u8) hi,zad (u:=.u8) hj]
   rw[wri (by omega) (by omega),show((i:Int)+1)=((i+1:Nat):Int) by omega,drop_one hi,drop_one hj]
   by_cases e:a[i]=b[i]
   ·rw[show(a[i] != b[i])=false by rw[bne_eq_false_iff_eq];exact e,cond_false,zm6 N a b hl ha m (i+1) (by omega) (by omega),e]
    simp only[List.cons.injEq,true_and]
   ·rw[show(a[i] != b[i])=true by rw[bne_iff_ne];exact e,cond_true,if_neg (fun q=>e (List.cons.inj q).1)]
  ·rw[zjy hi,List.drop_of_length_le (by omega),List.drop_of_length_le (by omega)];rfl
theorem zrh(a b:List UInt8)(ha:a.length<=100000)(hb:b.length<=100000):qH 200000 a b=some (a==b,()):=by
 unfold qH
 by_cases hl:a.length=b.length
 ·rw[show((((List.length a):Nat):Int) != (((List.length b):Nat):Int))=false by rw[bne_eq_false_iff_eq];omega]
  have:=zm6 200000 a b hl ha 200000 0 (Nat.zero_le _) (by omega)
  rw[List.drop_zero,List.drop_zero,show((0:Nat):Int)=(0:Int) from rfl] at this
  rw[this]
  by_cases e:a=b
  ·rw[if_pos e,show(a==b)=true by rw[beq_iff_eq];exact e];rfl
  ·rw[if_neg e,show(a==b)=false by rw[beq_eq_false_iff_ne];exact e];rfl
 ·rw[show((((List.length a):Nat):Int) != (((List.length b):Nat):Int))=true by rw[bne_iff_ne];omega,show(a==b)=false by rw[beq_eq_false_iff_ne];exact fun e=>hl (by rw[e])]
  rfl
def zbW(a b:Rsp):Bool:=a.1==b.1&&(a.2.1==b.2.1&&(a.2.2.1==b.2.2.1&&(a.2.2.2.1==b.2.2.2.1&&(a.2.2.2.2.1==b.2.2.2.2.1&&(a.2.2.2.2.2.1==b.2.2.2.2.2.1&&(a.2.2.2.2.2.2.1==b.2.2.2.2.2.2.1&&(a.2.2.2.2.2.2.2.1==b.2.2.2.2.2.2.2.1&&(a.2.2.2.2.2.2.2.2.1==b.2.2.2.2.2.2.2.2.1&&a.2.2.2.2.2.2.2.2.2==b.2.2.2.2.2.2.2.2.2))))))))
theorem ka{a b:Rsp}:zbW a b=true↔a=b:=by
 obtain⟨a1,a2,a3,a4,a5,a6,a7,a8,a9,a10⟩:=a
 obtain⟨b1,b2,b3,b4,b5,b6,b7,b8,b9,b10⟩:=b
 unfold zbW
 simp only[Bool.and_eq_true]
 constructor
 ·rintro⟨h1,h2,h3,h4,h5,h6,h7,h8,h9,h10⟩
  rw[eq_of_beq h1,eq_of_beq h2,eq_of_beq h3,eq_of_beq h4,eq_of_beq h5,eq_of_beq h6,eq_of_beq h7,eq_of_beq h8,eq_of_beq h9,eq_of_beq h10]
 ·intro h
  cases h
  simp only[beq_self_eq_true,and_self]
theorem zs8(c d:Bool)(x:Option (Bool×Unit))(y:Bool)(h:x=some (y,())):cond c x (some (false,()))=some (c&&y,()):=by cases c<;>simp [h]
theorem znu(N:Nat)(a b:Rsp):zb N a b=some (zbW a b,()):=by
 unfold zb zbW
 repeat' (first|rfl|refine zs8 _ true _ _ ?_)
theorem zdk(a b:Rsp)(ha:a.2.2.2.2.2.2.2.2.2.length<=100000)(hb:b.2.2.2.2.2.2.2.2.2.length<=100000):qk 200000 a b=some (zbW a b,()):=by
 unfold qk zbW
 rw[zrh _ _ ha hb]
 repeat' (first|rfl|refine zs8 _ true _ _ ?_)
def bI(it k:Int):Bool:=zd .and .i64 it k != 0
def itB(b1 b2 b4 b16:Bool):Int:=(cond b1 1 0)+(cond b2 2 0)+(cond b4 4 0)+(cond b16 16 0)
theorem zeC(b1 b2 b4 b16:Bool):bI (itB b1 b2 b4 b16) 1=b1/\bI (itB b1 b2 b4 b16) 2=b2/\bI (itB b1 b2 b4 b16) 4=b4/\bI (itB b1 b2 b4 b16) 16=b16/\bI (itB b1 b2 b4 b16) 8=false:=by
 cases b1<;>cases b2<;>cases b4<;>cases b16<;>decide
theorem ztk{it:Int}(h1:1<=it)(h2:it<=31)(h8:bI it 8=false):it=itB (bI it 1) (bI it 2) (bI it 4) (bI it 16):=by
 obtain⟨n,rfl⟩:∃ n:Nat,it=n:=⟨it.toNat,by omega⟩
 have key:((List.range 32).all fun n=>bI n 8||(n==0)||((n:Int)==itB (bI n 1) (bI n 2) (bI n 4) (bI n 16)))=true:=by kernel_rfl
 have:=List.all_eq_true.1 key n (List.mem_range.2 (by omega))
 rw[h8] at this
 simp only[Bool.false_or,Bool.or_eq_true,beq_iff_eq] at this
 rcases this with h|h
 ·omega
 ·exact h
inductive VR:Rsp->Prop where
 |num (k n:Int) (h:k=1\/k=2\/k=3):VR (k,(n,([],(0,([],(0,(0,(0,(0,[])))))))))
 |fet (n:Int) (b1 b2 b4 b16:Bool) (fl:UInt8) (uid sz:Int) (body:List UInt8) (h0:itB b1 b2 b4 b16≠0) (h1:fl<=31) (h2:body.length<=65536) (z1:b1=false->fl=0) (z2:b2=false->uid=0) (z4:b4=false->sz=0) (z16:b16=false->body=[]):
   VR (4,(n,([],(0,([],(itB b1 b2 b4 b16,(fl,(uid,(sz,body)))))))))
 |fls:VR (5,(0,([],(0,([],(0,(0,(0,(0,[])))))))))
 |txt (k:Int) (t:List UInt8) (h:k=6\/k=7\/k=8\/k=10) (ht:zby t=true):VR (k,(0,([],(0,(t,(0,(0,(0,(0,[])))))))))
 |tag (g t:List UInt8) (s:Int) (hg:zpn g=true) (ht:zby t=true) (h0:0<=s) (h2:s<=2):VR (9,(0,(g,(s,(t,(0,(0,(0,(0,[])))))))))
end Go.Proofs.Model
