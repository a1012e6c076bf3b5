/- The reader's number. -/
import Derived.Test.YtokiphiakdfipaaGreatDoorRb
set_option linter.unusedVariables false
set_option linter.unusedSimpArgs false
set_option maxRecDepth 100000
namespace Go.Proofs.Model
open Go Go.Gx Go.Mx Go.Sx
theorem zoS(N:Nat):∀ (m:Nat) (r:List UInt8) (i:Int),zB N m r i=zp N m r i
 |0,r,i=>rfl
 |m+1,r,i=>by
  unfold zB zp
  rw[show zB N m=zp N m from funext fun r=>funext fun i=>zoS N m r i]
  rfl
theorem zve(N:Nat)(r:Int):z7 N r=some (decide (r<48)||decide (57<r),()):=by
 unfold z7
 cases decide (r<48)<;>rfl
theorem zmt(N:Nat)(hN:0<N){r:List UInt8}(hr:r.length<=100000){i:Nat}(hi:i<r.length)(m:Nat):
  zp N (m+1) r (i:Int)=if zaM r[i] then zp N m r ((i+1:Nat):Int) else some (.inl (i:Int)):=by
 conv=>lhs;unfold zp qV
 simp only[zhu hi,cond_true,zeR (Nat.le_of_lt hi),Bool.and_self,Int.toNat_natCast,zcM,drop_one hi]
 generalize r[i]=c
 rcases Nat.lt_or_ge c.toNat 128 with hc|hc
 ·rw[zrv N c _ hc hN]
  simp only[Option.bind_some,zve]
  unfold zaM
  by_cases h1:48<=c.toNat
  ·by_cases h2:c.toNat<=57
   ·rw[decide_eq_false (show ¬ ((c.toNat:Nat):Int)<48 by omega),decide_eq_false (show ¬ (57:Int)<((c.toNat:Nat):Int) by omega),decide_eq_true h1,decide_eq_true h2]
    simp only[Bool.or_self,Bool.and_self,if_true,show(false==true)=false from rfl,cond_false]
    rw[wri (by omega) (by omega),show(i:Int)+1=((i+1:Nat):Int) by omega]
   ·rw[decide_eq_true (show(57:Int)<((c.toNat:Nat):Int) by omega),decide_eq_false h2]
    simp
  ·rw[decide_eq_true (show((c.toNat:Nat):Int)<48 by omega),decide_eq_false h1]
   simp
 ·obtain⟨x,sz,h1,h2⟩:=zpE N c (r.drop (i+1)) hc hN
  rw[h1]
  simp only[Option.bind_some,zve]
  unfold zaM
  rw[decide_eq_true h2,decide_eq_false (show ¬ c.toNat<=57 by omega)]
  simp
theorem zta(N:Nat){r:List UInt8}(m:Nat):zp N (m+1) r ((r.length:Nat):Int)=some (.inr ()):=by
 unfold zp qV
 rw[decide_eq_false (by omega)];rfl
theorem zse(N:Nat)(hN:0<N){r:List UInt8}(hr:r.length<=100000):∀ (m i:Nat),i<=r.length->r.length<m+i->(∃ k:Nat,k<=r.length/\zp N m r (i:Int)=some (.inl (k:Int)))\/zp N m r (i:Int)=some (.inr ())
 |0,i,h,h2=>by omega
 |m+1,i,h,h2=>by
  rcases Nat.lt_or_ge i r.length with hi|hi
  ·rw[zmt N hN hr hi]
   split
   ·exact zse N hN hr m (i+1) (by omega) (by omega)
   ·exact .inl ⟨i,h,rfl⟩
  ·obtain rfl:i=r.length:=by omega
   exact .inr (zta N m)
theorem zuQ(N:Nat)(hN:0<N){r:List UInt8}(hr:r.length<=100000){k:Nat}(hk:k<r.length)(hd:∀ j (hj:j<k),zaM (r[j]'(by omega))=true)(hc:zaM r[k]=false):∀ (m i:Nat),i<=k->r.length<m+i->zp N m r (i:Int)=some (.inl (k:Int))
 |0,i,h,h2=>by omega
 |m+1,i,h,h2=>by
  rw[zmt N hN hr (by omega)]
  rcases Nat.lt_or_ge i k with hi|hi
  ·rw[hd i hi];exact zuQ N hN hr hk hd hc m (i+1) (by omega) (by omega)
  ·obtain rfl:i=k:=by omega
   rw[hc];rfl
theorem zgX(N:Nat){b:List UInt8}(hb:b.length<=100000)(hN:b.length<N)(hN2:10<=N){i:Nat}(hi:i<=b.length):∃ j:Nat,j<=b.length/\∃ n ok,zn N (b,(i:Int))=some ((b,(j:Int)),n,ok,())/\0<=n/\n<4294967296:=by
 have h:At b i (b.drop i):=⟨hi,rfl⟩
 have hl:(b.drop i).length=b.length-i:=by rw[List.length_drop]
 generalize b.drop i=r at h hl
 have hr:r.length<=100000:=by omega
 have hnum:∀ s:List UInt8,s.length<=100000->∃ n ok,qZ N s=some (n,ok,())/\0<=n/\n<4294967296:=fun s hs=>by
  rw[zi4 N hN2 s hs];unfold zn3
  split
  ·rename_i v hv;have:=zgV hv;exact⟨_,_,rfl,by omega,by omega⟩
  ·exact⟨_,_,rfl,by omega,by omega⟩
 have hb0:wo (0:Int) ((r.length:Nat):Int) r.length=true:=qU (a:=0) (Nat.zero_le _) (Nat.le_refl _)
 have htk:∀ k:Nat,(slice r 0 k).length<=100000:=fun k=>Nat.le_trans jx hr
 unfold zn
 simp only[xr N h,Option.bind_some,zoS]
 rcases zse N (by omega) hr N 0 (Nat.zero_le _) (by omega) with⟨k,hk,he⟩|he
 ·rw[show((0:Nat):Int)=(0:Int) from rfl] at he
  have hk0:decide ((k:Int)<0)=false:=by simp
  have hbk:wo (0:Int) ((k:Nat):Int) r.length=true:=qU (a:=0) (Nat.zero_le _) hk
  simp only[he,Option.bind_some,zv,hk0,cond_false,hbk,Bool.and_self,cond_true,Int.toNat_natCast]
  obtain⟨n,ok,hn,hn1,hn2⟩:=hnum _ (htk k)
  rw[hn]
  simp only[Option.bind_some]
  cases ok with
  |true=>exact⟨i+k,by omega,n,true,by simp only[cond_true];rw[wri (by omega) (by omega),Int.natCast_add],hn1,hn2⟩
  |false=>exact⟨i,hi,n,false,rfl,hn1,hn2⟩
 ·rw[show((0:Nat):Int)=(0:Int) from rfl] at he
  simp only[he,Option.bind_some,zv,hb0,Bool.and_self,cond_true,Int.toNat_natCast]
  obtain⟨n,ok,hn,hn1,hn2⟩:=hnum _ (htk r.length)
  rw[hn]
  simp only[Option.bind_some]
  cases ok with
  |true=>exact⟨i+r.length,by omega,n,true,by simp only[cond_true];rw[wri (by omega) (by omega),Int.natCast_add],hn1,hn2⟩
  |false=>exact⟨i,hi,n,false,rfl,hn1,hn2⟩
theorem zi5(N:Nat){b:List UInt8}(hb:b.length<=100000)(hN:b.length<N)(hN2:10<=N){i n:Nat}{c:UInt8}{t:List UInt8}(hn:n<4294967296)(h:At b i (dec n++c::t))(hc:zaM c=false):zn N (b,(i:Int))=some ((b,((i+(dec n).length:Nat):Int)),(n:Int),true,()):=by
 have hl:=h.len
 simp only[List.length_append,List.length_cons] at hl
 have hr:(dec n++c::t).length<=100000:=by simp only[List.length_append,List.length_cons];omega
 have hk:(dec n).length<(dec n++c::t).length:=by simp only[List.length_append,List.length_cons];omega
 have he:=zuQ N (by omega) hr hk (fun j hj=>by rw[List.getElem_append_left hj];exact zeS 10 n _ (List.getElem_mem hj)) (by simp [hc]) N 0 (Nat.zero_le _) (by simp only[List.length_append,List.length_cons];omega)
 rw[show((0:Nat):Int)=(0:Int) from rfl] at he
 have hk0:decide (((dec n).length:Int)<0)=false:=by rw[decide_eq_false_iff_not];omega
 have hbk:wo (0:Int) (((dec n).length:Nat):Int) (dec n++c::t).length=true:=qU (a:=0) (Nat.zero_le _) (Nat.le_of_lt hk)
 unfold zn
 simp only[xr N h,Option.bind_some,zoS,he,zv,hk0,cond_false,hbk,Bool.and_self,cond_true,Int.toNat_natCast,zc2,List.take_left]
 rw[zi4 N hN2 _ (by have:=ju n;omega)]
 unfold zn3
 rw[zgm hn]
 simp only[Option.bind_some,cond_true]
 rw[wri (by omega) (by omega),Int.natCast_add]
end Go.Proofs.Model
