/- ReplyParses and ReplyReads. -/
import Derived.Test.YtokiphiakdfipaaGreatDoorSd
set_option linter.unusedVariables false
set_option linter.unusedSimpArgs false
set_option linter.unusedSectionVars false
set_option maxRecDepth 100000
namespace Go.Proofs.Model
open Go Go.Gx Go.Mx Go.Sx
theorem zud(N:Nat)(r:Rsp):zb N r r=some (true,()):=by rw[zmS,jk.2 rfl]
theorem znB{b:List UInt8}(hb:b.length<=100000)(p:Int):∃ r n k,zW 200000 b p=some (r,n,k,()):=by
 rcases zmP hb p with⟨i,r,_,_,_,e⟩|e
 ·exact⟨_,_,_,e⟩
 ·exact⟨_,_,_,e⟩
theorem zsw{a:Nat}(h:a<100000):Nat.blt (a+1) jh=true:=zaL (by omega)
theorem ziy(m:Nat){b:List UInt8}{p:Int}{acc:List Rsp}{r:Rsp}{n:Int}{k:Bool}(e:zW 200000 b p=some (r,n,k,())):zJ 200000 (m+1) b p acc=cond (!k) (some (p,acc)) (cond (Nat.blt (acc.length+1) jh) (zJ 200000 m b n (acc++[r])) none):=by
 conv=>lhs;unfold zJ kq
 rw[e];rfl
theorem zpt(m:Nat){b:List UInt8}{p:Int}{acc:List Rsp}{r:Rsp}{n:Int}{k:Bool}(e:wZ 200000 b p=some (r,n,k,())):qx 200000 (m+1) b p acc=cond (!k) (some (p,acc)) (cond (Nat.blt (acc.length+1) jh) (qx 200000 m b n (acc++[r])) none):=by
 conv=>lhs;unfold qx zbr
 rw[e];rfl
theorem zmh{b:List UInt8}(hb:b.length<=100000):∀ (m:Nat) (p:Int) (acc:List Rsp),zJ 200000 m b p acc=qx 200000 m b p acc
 |0,p,acc=>rfl
 |m+1,p,acc=>by
  obtain⟨r,n,k,e⟩:=znB hb p
  rw[ziy m e,zpt m (by rw[<- znA hb p];exact e),zmh hb m n]
theorem zpX(l:List Rsp)(hl:l.length<=100000):∀ (m j:Nat),j<=l.length->l.length<m+j->qk 200000 m l l (j:Int)=some (Sum.inr ())
 |0,j,h1,h2=>by omega
 |m+1,j,h1,h2=>by
  unfold qk kY
  by_cases h:j<l.length
  ·rw[zhu h,qi h,zud,wri (by omega) (by omega),show((j:Int)+1)=((j+1:Nat):Int) by omega]
   exact zpX l hl m (j+1) (by omega) (by omega)
  ·rw[zh3 h];rfl
theorem zuh(l:List Rsp)(hl:l.length<=100000):wE 200000 l l=some (true,()):=by
 unfold wE
 rw[show((((List.length l):Nat):Int) != (((List.length l):Nat):Int))=false by rw[bne_eq_false_iff_eq]]
 have:=zpX l hl 200000 0 (Nat.zero_le _) (by omega)
 rw[show((0:Nat):Int)=0 from rfl] at this
 rw[this];rfl
end Go.Proofs.Model
