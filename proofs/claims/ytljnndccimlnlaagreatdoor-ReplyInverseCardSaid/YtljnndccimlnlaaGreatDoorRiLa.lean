/- ReplyInverse, the plain law: All reads back what the writer wrote. -/
import Derived.Test.YtljnndccimlnlaaGreatDoorRiFa
import Derived.Test.YtljnndccimlnlaaGreatDoorSf
set_option linter.unusedVariables false
set_option maxRecDepth 100000
namespace Go.Proofs.YtljnndccimlnlaaGreatDoor
open Go.Proofs.Model Go Go.Gx Go.Mx Go.Sx
theorem zwz{r:Rsp}(h:Wf uR1 r):Rng r:=by
 obtain⟨_,⟨a1,a2⟩,_,_,_,_,_,⟨b1,b2⟩,⟨c1,c2⟩,_⟩:=h
 have l:IntKind.min .u32=0:=by decide
 have m:IntKind.max .u32=4294967295:=by decide
 rw[l] at a1 b1 c1
 rw[m] at a2 b2 c2
 have e:∀ {x:Int},x<=4294967295->x<4294967296:=fun h=>by omega
 exact⟨⟨a1,e a2⟩,⟨b1,e b2⟩,⟨c1,e c2⟩⟩
theorem law(x:El (zbQ [.sl uR1]))(hw:Wf (zbQ [.sl uR1]) x):∃ N,jB N x.1=some (true,()):=by
 obtain⟨⟨hl,hr⟩,_⟩:=hw
 have ml:maxLen=9223372036854775807:=by decide
 rw[ml] at hl
 exact zmb x.1 hl fun r h=>zwz (hr r h)
end Go.Proofs.YtljnndccimlnlaaGreatDoor
