/- ReplyParses and ReplyReads. -/
import Derived.Test.YtljnndccimlnlaaGreatDoorSd
set_option linter.unusedVariables false
set_option linter.unusedSimpArgs false
set_option linter.unusedSectionVars false
set_option maxRecDepth 100000
namespace Go.Proofs.Model
open Go Go.Gx Go.Mx Go.Sx
theorem zqj(N:Nat)(r:Rsp):zb N r r=some (true,()):=by rw[znu,ka.2 rfl]
theorem ziL{b:List UInt8}(hb:b.length<=100000)(p:Int):∃ r n k,qg 200000 b p=some (r,n,k,()):=by
 rcases zns hb p with⟨i,r,_,_,_,e⟩|e
 ·exact⟨_,_,_,e⟩
 ·exact⟨_,_,_,e⟩
theorem zoc(b:List UInt8)(p:Int):wu 200000 b p=some (true,()):=by
 unfold wu
 by_cases h:(2000:Int)<(((List.length b):Nat):Int)
 ·rw[decide_eq_true h];rfl
 ·rw[decide_eq_false h,cond_false]
  have hb:b.length<=100000:=by omega
  obtain⟨r,n,k,e⟩:=ziL hb p
  rw[<- ziK hb p,e]
  simp only[Option.bind_some,cond_true,zqj,beq_self_eq_true]
end Go.Proofs.Model
