/- Valid responses. -/
import Derived.Test.YtokiphiakdfipaaGreatDoorRd
set_option linter.unusedVariables false
set_option linter.unusedSimpArgs false
set_option maxRecDepth 100000
namespace Go.Proofs.Model
open Go Go.Gx Go.Mx Go.Sx
abbrev Rsp:=El uR1
theorem zmC(N:Nat)(s:List UInt8)(hs:s.length<=100000):∀ (m i:Nat),i<=s.length->s.length<m+i ->
  qM N m s (i:Int)=some (if(s.drop i).all zaD=true then Sum.inr s else Sum.inl ())
 |0,i,h,h'=>by omega
 |m+1,i,h,h'=>by
  unfold qM zae
  by_cases hi:i<s.length
  ·simp only[zhu hi,cond_true,qi hi,Int.toNat_natCast,wR (u:=.u8) hi,zxa,Option.bind_some]
   rw[wri (by omega) (by omega),show((i:Int)+1)=((i+1:Nat):Int) by omega,drop_one hi,List.all_cons]
   cases zaD s[i] with
   |false=>rfl
   |true=>simp only[Bool.not_true,cond_false,Bool.true_and];exact zmC N s hs m (i+1) (by omega) (by omega)
  ·rw[zh3 hi,List.drop_of_length_le (by omega)];rfl
theorem zmB(N:Nat)(s:List UInt8)(hs:s.length<=100000):∀ (m i:Nat),i<=s.length->s.length<m+i ->
  qW N m s (i:Int)=some (if(s.drop i).all zeu=true then Sum.inr s else Sum.inl ())
 |0,i,h,h'=>by omega
 |m+1,i,h,h'=>by
  unfold qW zaT
  by_cases hi:i<s.length
  ·simp only[zhu hi,cond_true,qi hi,Int.toNat_natCast,wR (u:=.u8) hi,zyX,Option.bind_some]
   rw[wri (by omega) (by omega),show((i:Int)+1)=((i+1:Nat):Int) by omega,drop_one hi,List.all_cons]
   cases zeu s[i] with
   |false=>rfl
   |true=>simp only[Bool.not_true,cond_false,Bool.true_and];exact zmB N s hs m (i+1) (by omega) (by omega)
  ·rw[zh3 hi,List.drop_of_length_le (by omega)];rfl
def zaN(s:List UInt8):Bool:=s != []&&s.all zaD
def zoQ(s:List UInt8):Bool:=s != []&&s.all zeu
theorem ztp(s:List UInt8)(hs:s.length<=100000):zr 200000 s=some (zaN s,()):=by
 unfold zr zaN
 have:=zmC 200000 s hs 200000 0 (Nat.zero_le _) (by omega)
 rw[List.drop_zero,show((0:Nat):Int)=(0:Int) from rfl] at this
 rw[this]
 cases h:s.all zaD with
 |true=>simp
 |false=>simp
theorem zto(s:List UInt8)(hs:s.length<=100000):zN 200000 s=some (zoQ s,()):=by
 unfold zN zoQ
 have:=zmB 200000 s hs 200000 0 (Nat.zero_le _) (by omega)
 rw[List.drop_zero,show((0:Nat):Int)=(0:Int) from rfl] at this
 rw[this]
 cases h:s.all zeu with
 |true=>simp
 |false=>simp
theorem zm4(N:Nat)(s:List UInt8)(hs:s.length<=100000):∀ (m i:Nat),i<=s.length->s.length<m+i ->
  qP N m s ((s.length:Nat):Int) (i:Int)=some (if(s.drop i).all zaD=true then Sum.inr () else Sum.inl ())
 |0,i,h,h'=>by omega
 |m+1,i,h,h'=>by
  unfold qP zas
  by_cases hi:i<s.length
  ·simp only[zhu hi,cond_true,qi hi,Int.toNat_natCast,wR (u:=.u8) hi,zwe,Option.bind_some]
   rw[wri (by omega) (by omega),show((i:Int)+1)=((i+1:Nat):Int) by omega,drop_one hi,List.all_cons]
   cases zaD s[i] with
   |false=>rfl
   |true=>simp only[Bool.not_true,cond_false,Bool.true_and];exact zm4 N s hs m (i+1) (by omega) (by omega)
  ·rw[zh3 hi,List.drop_of_length_le (by omega)];rfl
theorem zm0(N:Nat)(s:List UInt8)(hs:s.length<=100000):∀ (m i:Nat),i<=s.length->s.length<m+i ->
  qn N m s ((s.length:Nat):Int) (i:Int)=some (if(s.drop i).all zeu=true then Sum.inr () else Sum.inl ())
 |0,i,h,h'=>by omega
 |m+1,i,h,h'=>by
  unfold qn xe
  by_cases hi:i<s.length
  ·simp only[zhu hi,cond_true,qi hi,Int.toNat_natCast,wR (u:=.u8) hi,zyW,Option.bind_some]
   rw[wri (by omega) (by omega),show((i:Int)+1)=((i+1:Nat):Int) by omega,drop_one hi,List.all_cons]
   cases zeu s[i] with
   |false=>rfl
   |true=>simp only[Bool.not_true,cond_false,Bool.true_and];exact zm0 N s hs m (i+1) (by omega) (by omega)
  ·rw[zh3 hi,List.drop_of_length_le (by omega)];rfl
theorem zm5(N:Nat)(s:List UInt8)(hs:s.length<=100000):∀ (m i:Nat),i<=s.length->s.length<m+i ->
  qo N m s ((s.length:Nat):Int) (i:Int)=some (if(s.drop i).all zaD=true then Sum.inr () else Sum.inl ())
 |0,i,h,h'=>by omega
 |m+1,i,h,h'=>by
  unfold qo xi
  by_cases hi:i<s.length
  ·simp only[zhu hi,cond_true,qi hi,Int.toNat_natCast,wR (u:=.u8) hi,zwe,Option.bind_some]
   rw[wri (by omega) (by omega),show((i:Int)+1)=((i+1:Nat):Int) by omega,drop_one hi,List.all_cons]
   cases zaD s[i] with
   |false=>rfl
   |true=>simp only[Bool.not_true,cond_false,Bool.true_and];exact zm5 N s hs m (i+1) (by omega) (by omega)
  ·rw[zh3 hi,List.drop_of_length_le (by omega)];rfl
theorem zmu(N:Nat)(a b:List UInt8)(hl:a.length=b.length)(ha:a.length<=100000):∀ (m i:Nat),i<=a.length->a.length<m+i ->
  zK N m a b ((a.length:Nat):Int) (i:Int)=some (if a.drop i=b.drop i then Sum.inr () else Sum.inl ())
 |0,i,h,h'=>by omega
 |m+1,i,h,h'=>by
  unfold zK jP
  by_cases hi:i<a.length
  ·have hj:i<b.length:=by omega
   simp only[zhu hi,cond_true,qi hi,qi hj,Int.toNat_natCast,wR (u:=.u8) hi,wR (u:=.u8) hj]
   rw[wri (by omega) (by omega),show((i:Int)+1)=((i+1:Nat):Int) by omega,drop_one hi,drop_one hj]
   by_cases e:a[i]=b[i]
   ·rw[show(a[i] != b[i])=false by rw[bne_eq_false_iff_eq];exact e,cond_false,zmu N a b hl ha m (i+1) (by omega) (by omega),e]
    simp only[List.cons.injEq,true_and]
   ·rw[show(a[i] != b[i])=true by rw[bne_iff_ne];exact e,cond_true,if_neg (fun q=>e (List.cons.inj q).1)]
  ·rw[zh3 hi,List.drop_of_length_le (by omega),List.drop_of_length_le (by omega)];rfl
theorem zqO(a b:List UInt8)(ha:a.length<=100000)(hb:b.length<=100000):qD 200000 a b=some (a==b,()):=by
 unfold qD
 by_cases hl:a.length=b.length
 ·rw[show((((List.length a):Nat):Int) != (((List.length b):Nat):Int))=false by rw[bne_eq_false_iff_eq];omega]
  have:=zmu 200000 a b hl ha 200000 0 (Nat.zero_le _) (by omega)
  rw[List.drop_zero,List.drop_zero,show((0:Nat):Int)=(0:Int) from rfl] at this
  rw[this]
  by_cases e:a=b
  ·rw[if_pos e,show(a==b)=true by rw[beq_iff_eq];exact e];rfl
  ·rw[if_neg e,show(a==b)=false by rw[beq_eq_false_iff_ne];exact e];rfl
 ·rw[show((((List.length a):Nat):Int) != (((List.length b):Nat):Int))=true by rw[bne_iff_ne];omega,show(a==b)=false by rw[beq_eq_false_iff_ne];exact fun e=>hl (by rw[e])]
  rfl
def zbk(a b:Rsp):Bool:=a.1==b.1&&(a.2.1==b.2.1&&(a.2.2.1==b.2.2.1&&(a.2.2.2.1==b.2.2.2.1&&(a.2.2.2.2.1==b.2.2.2.2.1&&(a.2.2.2.2.2.1==b.2.2.2.2.2.1&&(a.2.2.2.2.2.2.1==b.2.2.2.2.2.2.1&&(a.2.2.2.2.2.2.2.1==b.2.2.2.2.2.2.2.1&&(a.2.2.2.2.2.2.2.2.1==b.2.2.2.2.2.2.2.2.1&&a.2.2.2.2.2.2.2.2.2==b.2.2.2.2.2.2.2.2.2))))))))
theorem jk{a b:Rsp}:zbk a b=true↔a=b:=by
 obtain⟨a1,a2,a3,a4,a5,a6,a7,a8,a9,a10⟩:=a
 obtain⟨b1,b2,b3,b4,b5,b6,b7,b8,b9,b10⟩:=b
 unfold zbk
 simp only[Bool.and_eq_true]
 constructor
 ·rintro⟨h1,h2,h3,h4,h5,h6,h7,h8,h9,h10⟩
  rw[eq_of_beq h1,eq_of_beq h2,eq_of_beq h3,eq_of_beq h4,eq_of_beq h5,eq_of_beq h6,eq_of_beq h7,eq_of_beq h8,eq_of_beq h9,eq_of_beq h10]
 ·intro h
  cases h
  simp only[beq_self_eq_true,and_self]
theorem zsb(c d:Bool)(x:Option (Bool×Unit))(y:Bool)(h:x=some (y,())):cond c x (some (false,()))=some (c&&y,()):=by cases c<;>simp [h]
theorem zmS(N:Nat)(a b:Rsp):zb N a b=some (zbk a b,()):=by
 unfold zb zbk
 repeat' (first|rfl|refine zsb _ true _ _ ?_)
theorem zcI(a b:Rsp)(ha:a.2.2.2.2.2.2.2.2.2.length<=100000)(hb:b.2.2.2.2.2.2.2.2.2.length<=100000):zP 200000 a b=some (zbk a b,()):=by
 unfold zP zbk
 rw[zqO _ _ ha hb]
 repeat' (first|rfl|refine zsb _ true _ _ ?_)
def bI(it k:Int):Bool:=zd .and .i64 it k != 0
def itB(b1 b2 b4 b16:Bool):Int:=(cond b1 1 0)+(cond b2 2 0)+(cond b4 4 0)+(cond b16 16 0)
theorem zed(b1 b2 b4 b16:Bool):bI (itB b1 b2 b4 b16) 1=b1/\bI (itB b1 b2 b4 b16) 2=b2/\bI (itB b1 b2 b4 b16) 4=b4/\bI (itB b1 b2 b4 b16) 16=b16/\bI (itB b1 b2 b4 b16) 8=false:=by
 cases b1<;>cases b2<;>cases b4<;>cases b16<;>decide
theorem zsl{it:Int}(h1:1<=it)(h2:it<=31)(h8:bI it 8=false):it=itB (bI it 1) (bI it 2) (bI it 4) (bI it 16):=by
 obtain⟨n,rfl⟩:∃ n:Nat,it=n:=⟨it.toNat,by omega⟩
 have key:((List.range 32).all fun n=>bI n 8||(n==0)||((n:Int)==itB (bI n 1) (bI n 2) (bI n 4) (bI n 16)))=true:=by kernel_rfl
 have:=List.all_eq_true.1 key n (List.mem_range.2 (by omega))
 rw[h8] at this
 simp only[Bool.false_or,Bool.or_eq_true,beq_iff_eq] at this
 rcases this with h|h
 ·omega
 ·exact h
inductive VR:Rsp->Prop where
 |num (k n:Int) (h:k=1\/k=2\/k=3):VR (k,(n,([],(0,([],(0,(0,(0,(0,[])))))))))
 |fet (n:Int) (b1 b2 b4 b16:Bool) (fl:UInt8) (uid sz:Int) (body:List UInt8) (h0:itB b1 b2 b4 b16≠0) (h1:fl<=31) (h2:body.length<=65536) (z1:b1=false->fl=0) (z2:b2=false->uid=0) (z4:b4=false->sz=0) (z16:b16=false->body=[]):
   VR (4,(n,([],(0,([],(itB b1 b2 b4 b16,(fl,(uid,(sz,body)))))))))
 |fls:VR (5,(0,([],(0,([],(0,(0,(0,(0,[])))))))))
 |txt (k:Int) (t:List UInt8) (h:k=6\/k=7\/k=8\/k=10) (ht:zaN t=true):VR (k,(0,([],(0,(t,(0,(0,(0,(0,[])))))))))
 |tag (g t:List UInt8) (s:Int) (hg:zoQ g=true) (ht:zaN t=true) (h0:0<=s) (h2:s<=2):VR (9,(0,(g,(s,(t,(0,(0,(0,(0,[])))))))))
end Go.Proofs.Model
