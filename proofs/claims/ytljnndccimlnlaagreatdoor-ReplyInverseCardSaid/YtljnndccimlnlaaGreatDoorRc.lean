/- The reader's number. -/
import Derived.Test.YtljnndccimlnlaaGreatDoorRb
set_option linter.unusedVariables false
set_option linter.unusedSimpArgs false
set_option maxRecDepth 100000
namespace Go.Proofs.Model
open Go Go.Gx Go.Mx Go.Sx
theorem zpp(N:Nat):∀ (m:Nat) (r:List UInt8) (i:Int),zy N m r i=zl N m r i
 |0,r,i=>rfl
 |m+1,r,i=>by
  unfold zy zl
  rw[show zy N m=zl N m from funext fun r=>funext fun i=>zpp N m r i]
  rfl
theorem zwq(N:Nat)(r:Int):qd N r=some (decide (r<48)||decide (57<r),()):=by
 unfold qd
 cases decide (r<48)<;>rfl
theorem zm5(N:Nat)(hN:0<N){r:List UInt8}(hr:r.length<=100000){i:Nat}(hi:i<r.length)(m:Nat):
  zl N (m+1) r (i:Int)=if zbx r[i] then zl N m r ((i+1:Nat):Int) else some (.inl (i:Int)):=by
 conv=>lhs;unfold zl wH
 simp only[zh8 hi,cond_true,zfg (Nat.le_of_lt hi),Bool.and_self,Int.toNat_natCast,zdo,drop_one hi]
 generalize r[i]=c
 rcases Nat.lt_or_ge c.toNat 128 with hc|hc
 ·rw[zrU N c _ hc hN]
  simp only[Option.bind_some,zwq]
  unfold zbx
  by_cases h1:48<=c.toNat
  ·by_cases h2:c.toNat<=57
   ·rw[decide_eq_false (show ¬ ((c.toNat:Nat):Int)<48 by omega),decide_eq_false (show ¬ (57:Int)<((c.toNat:Nat):Int) by omega),decide_eq_true h1,decide_eq_true h2]
    simp only[Bool.or_self,Bool.and_self,if_true,show(false==true)=false from rfl,cond_false]
    rw[wri (by omega) (by omega),show(i:Int)+1=((i+1:Nat):Int) by omega]
   ·rw[decide_eq_true (show(57:Int)<((c.toNat:Nat):Int) by omega),decide_eq_false h2]
    simp
  ·rw[decide_eq_true (show((c.toNat:Nat):Int)<48 by omega),decide_eq_false h1]
   simp
 ·obtain⟨x,sz,h1,h2⟩:=zqc N c (r.drop (i+1)) hc hN
  rw[h1]
  simp only[Option.bind_some,zwq]
  unfold zbx
  rw[decide_eq_true h2,decide_eq_false (show ¬ c.toNat<=57 by omega)]
  simp
theorem zv0(N:Nat)(hN:0<N){r:List UInt8}(hr:r.length<=100000){k:Nat}(hk:k<r.length)(hd:∀ j (hj:j<k),zbx (r[j]'(by omega))=true)(hc:zbx r[k]=false):∀ (m i:Nat),i<=k->r.length<m+i->zl N m r (i:Int)=some (.inl (k:Int))
 |0,i,h,h2=>by omega
 |m+1,i,h,h2=>by
  rw[zm5 N hN hr (by omega)]
  rcases Nat.lt_or_ge i k with hi|hi
  ·rw[hd i hi];exact zv0 N hN hr hk hd hc m (i+1) (by omega) (by omega)
  ·obtain rfl:i=k:=by omega
   rw[hc];rfl
theorem zjG(N:Nat){b:List UInt8}(hb:b.length<=100000)(hN:b.length<N)(hN2:10<=N){i n:Nat}{c:UInt8}{t:List UInt8}(hn:n<4294967296)(h:At b i (dec n++c::t))(hc:zbx c=false):zr N (b,(i:Int))=some ((b,((i+(dec n).length:Nat):Int)),(n:Int),true,()):=by
 have hl:=h.len
 simp only[List.length_append,List.length_cons] at hl
 have hr:(dec n++c::t).length<=100000:=by simp only[List.length_append,List.length_cons];omega
 have hk:(dec n).length<(dec n++c::t).length:=by simp only[List.length_append,List.length_cons];omega
 have he:=zv0 N (by omega) hr hk (fun j hj=>by rw[List.getElem_append_left hj];exact zfi 10 n _ (List.getElem_mem hj)) (by simp [hc]) N 0 (Nat.zero_le _) (by simp only[List.length_append,List.length_cons];omega)
 rw[show((0:Nat):Int)=(0:Int) from rfl] at he
 have hk0:decide (((dec n).length:Int)<0)=false:=by rw[decide_eq_false_iff_not];omega
 have hbk:xF (0:Int) (((dec n).length:Nat):Int) (dec n++c::t).length=true:=ki (a:=0) (Nat.zero_le _) (Nat.le_of_lt hk)
 unfold zr
 simp only[zaE N h,Option.bind_some,zpp,he,zn,hk0,cond_false,hbk,Bool.and_self,cond_true,Int.toNat_natCast,zdE,List.take_left]
 rw[zjF N hN2 _ (by have:=wF n;omega)]
 unfold zoA
 rw[zgP hn]
 simp only[Option.bind_some,cond_true]
 rw[wri (by omega) (by omega),Int.natCast_add]
end Go.Proofs.Model
