/- AuditReplays: what a client makes of the responses. -/
import Derived.Test.YtokiphiakdfipaaGreatDoorSe
import Derived.Test.YtokiphiakdfipaaGreatDoorAm
set_option linter.unusedVariables false
set_option linter.unusedSimpArgs false
set_option linter.unusedSectionVars false
set_option maxRecDepth 100000
namespace Go.Proofs.Model
open Go Go.Gx Go.Mx Go.Sx
def zlh(n:Int)(r:Rsp):Int×Bool×Unit:=if r.1=1 then((if n > IntKind.wrap .i64 r.2.1 then n else IntKind.wrap .i64 r.2.1),decide (n<=IntKind.wrap .i64 r.2.1),()) else if r.1=3 then(if 1<=IntKind.wrap .i64 r.2.1/\IntKind.wrap .i64 r.2.1<=n then(IntKind.wrap .i64 (n-1),true,()) else(n,false,())) else if r.1=4 then(n,decide (1<=IntKind.wrap .i64 r.2.1/\IntKind.wrap .i64 r.2.1<=n),()) else(n,true,())
theorem zqR(N:Nat)(n:Int)(r:Rsp):kf N n r=some (zlh n r):=by
 unfold kf zlh
 generalize hx:IntKind.wrap .i64 r.2.1=x
 have e:(if x > n then x else n)=(if n > x then n else x):=by
  by_cases h1:x > n
  ·rw[if_pos h1,if_neg (by omega)]
  ·by_cases h2:n > x
   ·rw[if_neg h1,if_pos h2]
   ·rw[if_neg h1,if_neg h2];omega
 by_cases e1:r.1=1
 ·rw[if_pos e1,jY e1]
  simp only[cond_true,e]
  cases decide ((0:Int)<x)<;>rfl
 ·rw[if_neg e1,qH e1]
  simp only[cond_false]
  by_cases e3:r.1=3
  ·rw[if_pos e3,jY e3]
   simp only[cond_true]
   by_cases h0:(0:Int)<x
   ·rw[decide_eq_true h0,cond_true]
    by_cases h1:x<=n
    ·rw[if_pos ⟨by omega,h1⟩,decide_eq_true h1];rfl
    ·rw[if_neg (fun h=>h1 h.2),decide_eq_false h1];rfl
   ·rw[decide_eq_false h0,cond_false,if_neg (fun h=>h0 (by omega))]
  ·rw[if_neg e3,qH e3]
   simp only[cond_false]
   by_cases e4:r.1=4
   ·rw[if_pos e4,jY e4]
    simp only[cond_true]
    by_cases h0:(0:Int)<x
    ·rw[decide_eq_true h0,cond_true]
     by_cases h1:x<=n
     ·rw[decide_eq_true h1,decide_eq_true (⟨by omega,h1⟩:1<=x/\x<=n)]
     ·rw[decide_eq_false h1,decide_eq_false (fun h:1<=x/\x<=n=>h1 h.2)]
    ·rw[decide_eq_false h0,cond_false,decide_eq_false (fun h:1<=x/\x<=n=>h0 (by omega))]
   ·rw[if_neg e4,qH e4]
    simp only[cond_false]
    cases decide ((0:Int)<x)<;>rfl
theorem ztj(N:Nat)(n:Int)(r:Rsp):wA N n r=some (zlh n r):=by
 unfold wA zlh
 generalize hx:IntKind.wrap .i64 r.2.1=x
 by_cases e1:r.1=1
 ·rw[if_pos e1,jY e1];rfl
 ·rw[if_neg e1,qH e1]
  simp only[cond_false]
  by_cases e3:r.1=3
  ·rw[if_pos e3,jY e3]
   simp only[cond_true]
   by_cases h0:x<1
   ·rw[decide_eq_true h0,cond_true,if_neg (fun h=>by omega)]
   ·rw[decide_eq_false h0,cond_false]
    by_cases h1:n<x
    ·rw[decide_eq_true h1,cond_true,if_neg (fun h=>by omega)]
    ·rw[decide_eq_false h1,cond_false,if_pos ⟨by omega,by omega⟩]
  ·rw[if_neg e3,qH e3]
   simp only[cond_false]
   by_cases e4:r.1=4
   ·rw[if_pos e4,jY e4]
    simp only[cond_true]
    by_cases h0:(1:Int)<=x
    ·rw[decide_eq_true h0,cond_true]
     by_cases h1:x<=n
     ·rw[decide_eq_true h1,decide_eq_true (⟨by omega,h1⟩:1<=x/\x<=n)]
     ·rw[decide_eq_false h1,decide_eq_false (fun h:1<=x/\x<=n=>h1 h.2)]
    ·rw[decide_eq_false h0,cond_false,decide_eq_false (fun h:1<=x/\x<=n=>h0 h.1)]
   ·rw[if_neg e4,qH e4];rfl
theorem zmQ(b:List UInt8)(a:Int)(l:List Rsp)(hl:l.length<=100000):∀ (m j:Nat) (n:Int),j<=l.length->l.length<m+j ->
  (∃ n',zQ 200000 m b a l ((l.length:Nat):Int) (j:Int) n=some (Sum.inl n')/\zR 200000 m l n (j:Int)=some (Sum.inl ())) \/
  (∃ n',zQ 200000 m b a l ((l.length:Nat):Int) (j:Int) n=some (Sum.inr (b,a,n'))/\zR 200000 m l n (j:Int)=some (Sum.inr n'))
 |0,j,n,h1,h2=>by omega
 |m+1,j,n,h1,h2=>by
  unfold zQ xG zR xK
  by_cases h:j<l.length
  ·rw[zhu h,qi h,Int.toNat_natCast,wR (u:=uR1) h,wri (by omega) (by omega),show((j:Int)+1)=((j+1:Nat):Int) by omega]
   simp only[cond_true,zqR,ztj,Option.bind_some]
   have key:∀ k:Int,(∃ n',cond (!(zlh k l[j]).2.1) (some (Sum.inl (zlh k l[j]).1)) (zQ 200000 m b a l ((l.length:Nat):Int) ((j+1:Nat):Int) (zlh k l[j]).1)=some (Sum.inl n')/\cond (!(zlh k l[j]).2.1) (some (Sum.inl ())) (zR 200000 m l (zlh k l[j]).1 ((j+1:Nat):Int))=some (Sum.inl ())) \/
     (∃ n',cond (!(zlh k l[j]).2.1) (some (Sum.inl (zlh k l[j]).1)) (zQ 200000 m b a l ((l.length:Nat):Int) ((j+1:Nat):Int) (zlh k l[j]).1)=some (Sum.inr (b,a,n'))/\cond (!(zlh k l[j]).2.1) (some (Sum.inl ())) (zR 200000 m l (zlh k l[j]).1 ((j+1:Nat):Int))=some (Sum.inr n')):=fun k=>by
    cases(zlh k l[j]).2.1 with
    |false=>exact .inl ⟨_,rfl,rfl⟩
    |true=>exact zmQ b a l hl m (j+1) _ (by omega) (by omega)
   cases(l[j].1==(5:Int)) with
   |true=>exact key 0
   |false=>exact key n
  ·rw[zh3 h];exact .inr ⟨n,rfl,rfl⟩
theorem zoe{b:List UInt8}(hb:b.length<=100000):∀ (m i:Nat) (acc:List Rsp),i<=b.length->b.length<m+i->acc.length<=i->∃ (n:Nat) (rs:List Rsp),zJ 200000 m b (i:Int) acc=some ((n:Int),rs)/\rs.length<=100000/\n<=b.length
 |0,i,acc,h1,h2,h3=>by omega
 |m+1,i,acc,h1,h2,h3=>by
  rcases zmP hb (i:Int) with⟨j,r,hj,hi,hp,e⟩|e
  ·obtain rfl:i=j:=by omega
   have hpos:=zqT hp.v
   have hbd:=hp.bnd
   rw[ziy m e,zsw (by omega)]
   exact zoe hb m _ _ hbd (by omega) (by simp only[List.length_append,List.length_cons,List.length_nil];omega)
  ·rw[ziy m e]
   exact⟨i,_,rfl,by omega,h1⟩
theorem zr7(b:List UInt8):∀ (m:Nat) (p:Int) (acc:List Rsp),qc 200000 m b p acc=zJ 200000 m b p acc
 |0,p,acc=>rfl
 |m+1,p,acc=>by
  unfold qc kP zJ kq
  have:∀ p' acc',qc 200000 m b p' acc'=zJ 200000 m b p' acc':=zr7 b m
  simp only[this]
def kp(r:Rsp):Bool:=r.1==9||r.1==8
theorem zoR{l:List Rsp}{j:Nat}(h:j<l.length):(l.take (j+1)).filter kp=(l.take j).filter kp++cond (kp l[j]) [l[j]] []:=by
 rw[List.take_succ_eq_append_getElem h,List.filter_append,List.filter_cons,List.filter_nil]
 cases kp l[j]<;>rfl
theorem ziR(l:List Rsp)(hl:l.length<=100000):∀ (m j:Nat),j<=l.length->l.length<m+j->(l.take j).filter kp=l.take j ->
  (∃ i:Nat,i<l.length/\qd 200000 m ((l.length:Nat):Int) (j:Int) l=some (Sum.inl ((i:Int),l))/\(l.take (i+1)).filter kp=l.take i)\/(qd 200000 m ((l.length:Nat):Int) (j:Int) l=some (Sum.inr l)/\l.filter kp=l)
 |0,j,h1,h2,h3=>by omega
 |m+1,j,h1,h2,h3=>by
  unfold qd kR
  by_cases h:j<l.length
  ·rw[zhu h,qi h,Int.toNat_natCast,wR (u:=uR1) h,wri (by omega) (by omega),show((j:Int)+1)=((j+1:Nat):Int) by omega]
   simp only[cond_true]
   have ht:=zoR h
   have go:kp l[j]=true->(l.take (j+1)).filter kp=l.take (j+1):=fun hk=>by
    rw[ht,hk,h3,cond_true,List.take_succ_eq_append_getElem h]
   by_cases h9:l[j].1=9
   ·rw[show(l[j].1 != (9:Int))=false by rw[bne_eq_false_iff_eq];exact h9,cond_false]
    exact ziR l hl m (j+1) (by omega) (by omega) (go (by unfold kp;rw[jY h9];rfl))
   ·rw[show(l[j].1 != (9:Int))=true by rw[bne_iff_ne];exact h9,cond_true]
    by_cases h8:l[j].1=8
    ·rw[show(l[j].1 != (8:Int))=false by rw[bne_eq_false_iff_eq];exact h8,cond_false]
     exact ziR l hl m (j+1) (by omega) (by omega) (go (by unfold kp;rw[jY h8,Bool.or_true]))
    ·rw[show(l[j].1 != (8:Int))=true by rw[bne_iff_ne];exact h8,cond_true]
     refine .inl ⟨j,h,rfl,?_⟩
     rw[ht,h3,show kp l[j]=false by unfold kp;rw[qH h9,qH h8];rfl,cond_false,List.append_nil]
  ·rw[zh3 h]
   have:l.take j=l:=List.take_of_length_le (by omega)
   rw[this] at h3
   exact .inr ⟨rfl,h3⟩
theorem ziE(rs:List Rsp)(hl:rs.length<=100000):∀ (m i j:Nat) (l:List Rsp),i<j->j<=rs.length->rs.length<m+j->l.length=rs.length->l.take i=(rs.take j).filter kp->l.drop j=rs.drop j ->
  ∃ (i':Nat) (l':List Rsp),zS 200000 m (i:Int) (j:Int) l=some ((i':Int),l')/\l'.length=rs.length/\i'<=rs.length/\l'.take i'=rs.filter kp
 |0,i,j,l,h0,h1,h2,h3,h4,h5=>by omega
 |m+1,i,j,l,h0,h1,h2,h3,h4,h5=>by
  unfold zS kT
  by_cases h:j<l.length
  ·have hr:j<rs.length:=by omega
   have hx:l[j]=rs[j]:=by
    have:=congrArg (fun x=>x[0]?) h5
    simp only[List.getElem?_drop,Nat.add_zero,List.getElem?_eq_getElem h,List.getElem?_eq_getElem hr] at this
    exact Option.some.inj this
   have hd:l.drop (j+1)=rs.drop (j+1):=by
    have:=congrArg (List.drop 1) h5
    simpa [List.drop_drop,Nat.add_comm] using this
   have hi:i<l.length:=by omega
   rw[zhu h,qi h,qi hi,Int.toNat_natCast,Int.toNat_natCast,wR (u:=uR1) h,wri (by omega) (by omega),wri (by omega) (by omega),show((j:Int)+1)=((j+1:Nat):Int) by omega,show((i:Int)+1)=((i+1:Nat):Int) by omega]
   simp only[cond_true]
   have ht:=zoR hr
   have yes:kp rs[j]=true->∃ (i':Nat) (l':List Rsp),zS 200000 m ((i+1:Nat):Int) ((j+1:Nat):Int) (l.set i l[j])=some ((i':Int),l')/\l'.length=rs.length/\i'<=rs.length/\l'.take i'=rs.filter kp:=fun hk=>
    ziE rs hl m (i+1) (j+1) (l.set i l[j]) (by omega) (by omega) (by omega) (by rw[List.length_set];exact h3)
     (by rw[List.take_succ_eq_append_getElem (by rw[List.length_set];exact hi),List.getElem_set_self,List.take_set_of_le (Nat.le_refl _),h4,ht,hk,hx];rfl)
     (by rw[List.drop_set_of_lt (by omega)];exact hd)
   have no:kp rs[j]=false->∃ (i':Nat) (l':List Rsp),zS 200000 m (i:Int) ((j+1:Nat):Int) l=some ((i':Int),l')/\l'.length=rs.length/\i'<=rs.length/\l'.take i'=rs.filter kp:=fun hk=>
    ziE rs hl m i (j+1) l (by omega) (by omega) (by omega) h3 (by rw[h4,ht,hk,cond_false,List.append_nil]) hd
   by_cases h9:l[j].1=9
   ·rw[show(l[j].1 != (9:Int))=false by rw[bne_eq_false_iff_eq];exact h9,cond_false]
    exact yes (by unfold kp;rw[jY (by rw[<- hx];exact h9)];rfl)
   ·rw[show(l[j].1 != (9:Int))=true by rw[bne_iff_ne];exact h9,cond_true]
    by_cases h8:l[j].1=8
    ·rw[show(l[j].1 != (8:Int))=false by rw[bne_eq_false_iff_eq];exact h8]
     exact yes (by unfold kp;rw[jY (a:=rs[j].1) (b:=8) (by rw[<- hx];exact h8),Bool.or_true])
    ·rw[show(l[j].1 != (8:Int))=true by rw[bne_iff_ne];exact h8]
     exact no (by unfold kp;rw[qH (by rw[<- hx];exact h9),qH (by rw[<- hx];exact h8)];rfl)
  ·rw[zh3 h]
   refine⟨i,l,rfl,h3,by omega,?_⟩
   rw[h4,List.take_of_length_le (by omega)]
theorem zs5(l:List Rsp)(i:Nat)(z:Rsp)(hi:i<=l.length):(wy l i (List.take (l.length-i) (List.replicate (l.length-i) z))).length=l.length:=by
 unfold wy
 simp only[List.length_append,List.length_take,List.length_replicate,List.length_drop]
 omega
theorem zqL(l:List Rsp)(i:Nat)(xs:List Rsp)(hi:i<=l.length):slice (wy l i xs) 0 (0+(i-0))=l.take i:=by
 unfold slice wy
 rw[List.drop_zero,Nat.zero_add,Nat.sub_zero,Nat.sub_zero,List.append_assoc,List.take_append_of_le_length (by rw[List.length_take];omega),List.take_take,Nat.min_self]
theorem zi9(rs:List Rsp)(hl:rs.length<=100000):∀ (m j:Nat) (acc:List Rsp),j<=rs.length->rs.length<m+j->acc.length<=j->qm 200000 m rs (j:Int) acc=some (acc++(rs.drop j).filter kp)
 |0,j,acc,h1,h2,h3=>by omega
 |m+1,j,acc,h1,h2,h3=>by
  unfold qm k9
  by_cases h:j<rs.length
  ·rw[zhu h,qi h,Int.toNat_natCast,wR (u:=uR1) h,wri (by omega) (by omega),show((j:Int)+1)=((j+1:Nat):Int) by omega,zsw (by omega),List.drop_eq_getElem_cons h,List.filter_cons]
   simp only[cond_true]
   have yes:=zi9 rs hl m (j+1) (acc++[rs[j]]) (by omega) (by omega) (by simp only[List.length_append,List.length_cons,List.length_nil];omega)
   have no:=zi9 rs hl m (j+1) acc (by omega) (by omega) (by omega)
   by_cases h8:rs[j].1=8
   ·rw[jY h8,cond_true,yes,show kp rs[j]=true by unfold kp;rw[jY h8,Bool.or_true],if_pos rfl,List.append_assoc];rfl
   ·rw[qH h8,cond_false]
    by_cases h9:rs[j].1=9
    ·rw[jY h9,cond_true,yes,show kp rs[j]=true by unfold kp;rw[jY h9];rfl,if_pos rfl,List.append_assoc];rfl
    ·rw[qH h9,cond_false,no,show kp rs[j]=false by unfold kp;rw[qH h9,qH h8];rfl,if_neg (by decide)]
  ·rw[zh3 h,List.drop_of_length_le (by omega),List.filter_nil,List.append_nil];rfl
theorem zkC{b:List UInt8}{n:Int}{rs:List Rsp}(hl:rs.length<=100000)(e:zJ 200000 200000 b 0 []=some (n,rs)):wT 200000 b=some (rs.filter kp,()):=by
 unfold wT
 rw[zr7,e]
 simp only[Option.bind_some]
 rcases ziR rs hl 200000 0 (Nat.zero_le _) (by omega) rfl with⟨i,hi,e1,hk⟩|⟨e1,hk⟩
 ·rw[show((0:Nat):Int)=0 from rfl] at e1
  rw[e1]
  simp only[Option.bind_some,zv]
  rw[qH (show ¬ ((i:Nat):Int)=-1 by omega),cond_false,wri (by omega) (by omega),show((i:Int)+1)=((i+1:Nat):Int) by omega]
  obtain⟨i',l',e2,hl',hi',ht⟩:=ziE rs hl 200000 i (i+1) rs (Nat.lt_succ_self _) hi (by omega) rfl hk.symm rfl
  rw[e2]
  simp only[Option.bind_some,Int.toNat_natCast]
  rw[zs5 _ _ _ (by omega),zqL _ _ _ (by omega),ht,qU (by omega) (Nat.le_refl _)]
  have hb0:=qU (Nat.zero_le i') (show i'<=l'.length by omega)
  rw[show((0:Nat):Int)=0 from rfl] at hb0
  rw[hb0]
  rfl
 ·rw[show((0:Nat):Int)=0 from rfl] at e1
  rw[e1,hk];rfl
theorem zoi(b:List UInt8):qF 200000 b=some (true,()):=by
 unfold qF
 by_cases h:(3000:Int)<(((List.length b):Nat):Int)
 ·rw[decide_eq_true h];rfl
 ·rw[decide_eq_false h,cond_false]
  have hb:b.length<=100000:=by omega
  obtain⟨n,rs,e,hl,hn⟩:=zoe hb 200000 0 [] (Nat.zero_le _) (by omega) (Nat.le_refl _)
  rw[show((0:Nat):Int)=0 from rfl] at e
  have er:=e
  rw[zmh hb] at er
  have hsame:∃ k ok,kE 200000 b=some (k,ok,())/\kH 200000 b=some (k,ok,()):=by
   unfold kE kH zdp zak
   rw[e,er]
   simp only[Option.bind_some]
   have hr:=zmQ b (n:Int) rs hl 200000 0 0 (Nat.zero_le _) (by omega)
   rw[show((0:Nat):Int)=0 from rfl] at hr
   by_cases hc:n=b.length
   ·rw[show(((n:Nat):Int) != ((b.length:Nat):Int))=false by rw[bne_eq_false_iff_eq];omega,cond_false]
    rcases hr with⟨n',e1,e2⟩|⟨n',e1,e2⟩
    ·rw[e1,e2];exact⟨_,_,rfl,rfl⟩
    ·rw[e1,e2]
     simp only[Option.bind_some,zv]
     rw[decide_eq_false (show ¬ ((n:Nat):Int)<((b.length:Nat):Int) by omega)]
     exact⟨_,_,rfl,rfl⟩
   ·rw[show(((n:Nat):Int) != ((b.length:Nat):Int))=true by rw[bne_iff_ne];omega,cond_true]
    refine⟨0,false,?_,rfl⟩
    rcases hr with⟨n',e1,e2⟩|⟨n',e1,e2⟩
    ·rw[e1];rfl
    ·rw[e1]
     simp only[Option.bind_some,zv]
     rw[decide_eq_true (show((n:Nat):Int)<((b.length:Nat):Int) by omega)]
     rfl
  obtain⟨k,ok,e1,e2⟩:=hsame
  rw[e1,e2,zkC hl e]
  have e3:ka 200000 b=some (rs.filter kp,()):=by
   unfold ka zak
   rw[er]
   simp only[Option.bind_some]
   have:=zi9 rs hl 200000 0 [] (Nat.zero_le _) (by omega) (Nat.le_refl _)
   rw[show((0:Nat):Int)=0 from rfl,List.nil_append,List.drop_zero] at this
   rw[this];rfl
  simp only[Option.bind_some,cond_true,beq_self_eq_true,e3]
  rw[zuh _ (Nat.le_trans (List.length_filter_le _ _) hl)]
  rfl
end Go.Proofs.Model
