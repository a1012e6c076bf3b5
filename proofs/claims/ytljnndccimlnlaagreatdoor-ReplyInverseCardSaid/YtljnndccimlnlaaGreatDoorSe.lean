/- ReplyParses and ReplyReads. -/
import Derived.Test.YtljnndccimlnlaaGreatDoorSd
set_option linter.unusedVariables false
set_option linter.unusedSimpArgs false
set_option linter.unusedSectionVars false
set_option maxRecDepth 100000
namespace Go.Proofs.Model
open Go Go.Gx Go.Mx Go.Sx
theorem zqj(N:Nat)(r:Rsp):zb N r r=some (true,()):=by rw[znu,ka.2 rfl]
theorem zpM{a:Nat}(h:a<100000):Nat.blt (a+1) kg=true:=zbe (by omega)
theorem zem(m:Nat){b:List UInt8}{p:Int}{acc:List Rsp}{r:Rsp}{n:Int}{k:Bool}(e:qg 200000 b p=some (r,n,k,())):qv 200000 (m+1) b p acc=cond (!k) (some (p,acc)) (cond (Nat.blt (acc.length+1) kg) (qv 200000 m b n (acc++[r])) none):=by
 conv=>lhs;unfold qv zb2
 rw[e];rfl
theorem zqw(l:List Rsp)(hl:l.length<=100000):∀ (m j:Nat),j<=l.length->l.length<m+j->qM 200000 m l l (j:Int)=some (Sum.inr ())
 |0,j,h1,h2=>by omega
 |m+1,j,h1,h2=>by
  unfold qM zay
  by_cases h:j<l.length
  ·rw[zh8 h,jJ h,zqj,wri (by omega) (by omega),show((j:Int)+1)=((j+1:Nat):Int) by omega]
   exact zqw l hl m (j+1) (by omega) (by omega)
  ·rw[zjy h];rfl
theorem zqx(l:List Rsp)(hl:l.length<=100000):wI 200000 l l=some (true,()):=by
 unfold wI
 rw[show((((List.length l):Nat):Int) != (((List.length l):Nat):Int))=false by rw[bne_eq_false_iff_eq]]
 have:=zqw l hl 200000 0 (Nat.zero_le _) (by omega)
 rw[show((0:Nat):Int)=0 from rfl] at this
 rw[this];rfl
end Go.Proofs.Model
