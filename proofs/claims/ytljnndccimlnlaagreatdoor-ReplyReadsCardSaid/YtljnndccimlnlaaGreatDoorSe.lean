/- ReplyParses and ReplyReads. -/
import Derived.Test.YtljnndccimlnlaaGreatDoorSd
set_option linter.unusedVariables false
set_option linter.unusedSimpArgs false
set_option linter.unusedSectionVars false
set_option maxRecDepth 100000
namespace Go.Proofs.Model
open Go Go.Gx Go.Mx Go.Sx
theorem zqj(N:Nat)(r:Rsp):zb N r r=some (true,()):=by rw[znu,ka.2 rfl]
theorem ziL{b:List UInt8}(hb:b.length<=100000)(p:Int):∃ r n k,qg 200000 b p=some (r,n,k,()):=by
 rcases zns hb p with⟨i,r,_,_,_,e⟩|e
 ·exact⟨_,_,_,e⟩
 ·exact⟨_,_,_,e⟩
theorem zpM{a:Nat}(h:a<100000):Nat.blt (a+1) kg=true:=zbe (by omega)
theorem zem(m:Nat){b:List UInt8}{p:Int}{acc:List Rsp}{r:Rsp}{n:Int}{k:Bool}(e:qg 200000 b p=some (r,n,k,())):qv 200000 (m+1) b p acc=cond (!k) (some (p,acc)) (cond (Nat.blt (acc.length+1) kg) (qv 200000 m b n (acc++[r])) none):=by
 conv=>lhs;unfold qv zb2
 rw[e];rfl
theorem zpX(m:Nat){b:List UInt8}{p:Int}{acc:List Rsp}{r:Rsp}{n:Int}{k:Bool}(e:wV 200000 b p=some (r,n,k,())):je 200000 (m+1) b p acc=cond (!k) (some (p,acc)) (cond (Nat.blt (acc.length+1) kg) (je 200000 m b n (acc++[r])) none):=by
 conv=>lhs;unfold je zbZ
 rw[e];rfl
theorem zmU{b:List UInt8}(hb:b.length<=100000):∀ (m:Nat) (p:Int) (acc:List Rsp),qv 200000 m b p acc=je 200000 m b p acc
 |0,p,acc=>rfl
 |m+1,p,acc=>by
  obtain⟨r,n,k,e⟩:=ziL hb p
  rw[zem m e,zpX m (by rw[<- ziK hb p];exact e),zmU hb m n]
theorem zs4{b:List UInt8}(hb:b.length<=100000):∀ (m i:Nat) (acc:List Rsp),i<=b.length->b.length<m+i->acc.length<=i->∃ n rs,qv 200000 m b (i:Int) acc=some (n,rs)/\rs.length<=100000
 |0,i,acc,h1,h2,h3=>by omega
 |m+1,i,acc,h1,h2,h3=>by
  rcases zns hb (i:Int) with⟨j,r,hj,hi,hp,e⟩|e
  ·obtain rfl:i=j:=by omega
   have hpos:=zrl hp.v
   have hbd:=hp.bnd
   rw[zem m e,zpM (by omega)]
   exact zs4 hb m _ _ hbd (by omega) (by simp only[List.length_append,List.length_cons,List.length_nil];omega)
  ·rw[zem m e]
   exact⟨_,_,rfl,by omega⟩
theorem zqw(l:List Rsp)(hl:l.length<=100000):∀ (m j:Nat),j<=l.length->l.length<m+j->qM 200000 m l l (j:Int)=some (Sum.inr ())
 |0,j,h1,h2=>by omega
 |m+1,j,h1,h2=>by
  unfold qM zay
  by_cases h:j<l.length
  ·rw[zh8 h,jJ h,zqj,wri (by omega) (by omega),show((j:Int)+1)=((j+1:Nat):Int) by omega]
   exact zqw l hl m (j+1) (by omega) (by omega)
  ·rw[zjy h];rfl
theorem zqx(l:List Rsp)(hl:l.length<=100000):wI 200000 l l=some (true,()):=by
 unfold wI
 rw[show((((List.length l):Nat):Int) != (((List.length l):Nat):Int))=false by rw[bne_eq_false_iff_eq]]
 have:=zqw l hl 200000 0 (Nat.zero_le _) (by omega)
 rw[show((0:Nat):Int)=0 from rfl] at this
 rw[this];rfl
theorem zpZ(b:List UInt8):wN 200000 b=some (true,()):=by
 unfold wN
 by_cases h:(2000:Int)<(((List.length b):Nat):Int)
 ·rw[decide_eq_true h];rfl
 ·rw[decide_eq_false h,cond_false]
  have hb:b.length<=100000:=by omega
  obtain⟨n,rs,e,hl⟩:=zs4 hb 200000 0 [] (Nat.zero_le _) (by omega) (Nat.le_refl _)
  rw[show((0:Nat):Int)=0 from rfl] at e
  unfold zai zcr
  rw[<- zmU hb,e]
  simp only[Option.bind_some,cond_true,zqx rs hl,beq_self_eq_true]
end Go.Proofs.Model
