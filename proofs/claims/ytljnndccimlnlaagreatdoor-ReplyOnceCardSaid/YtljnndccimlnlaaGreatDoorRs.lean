/- The reader's FETCH reads what is written, and always comes to an end. -/
import Derived.Test.YtljnndccimlnlaaGreatDoorRn
set_option linter.unusedVariables false
set_option linter.unusedSimpArgs false
set_option linter.unusedSectionVars false
set_option maxRecDepth 100000
namespace Go.Proofs.Model
open Go Go.Gx Go.Mx Go.Sx
def sp (more:Bool) (x:List UInt8):List UInt8:=cond more (32 :: x) x
def s16 (more b16:Bool) (body t:List UInt8):List UInt8:=(cond b16 (sp more (pB body)) []) ++ 41 :: t
def s4 (more b4 b16:Bool) (sz:Nat) (body t:List UInt8):List UInt8:=(cond b4 (sp more (pS sz)) []) ++ s16 (more || b4) b16 body t
def s2 (more b2 b4 b16:Bool) (uid sz:Nat) (body t:List UInt8):List UInt8:=(cond b2 (sp more (pU uid)) []) ++ s4 (more || b2) b4 b16 sz body t
def s1 (b1 b2 b4 b16:Bool) (fl:UInt8) (uid sz:Nat) (body t:List UInt8):List UInt8:=(cond b1 (pF fl) []) ++ s2 b1 b2 b4 b16 uid sz body t
section
variable {b:List UInt8} (hb:b.length <= 100000) (p1:Int)
include hb
def Goo (b:List UInt8) (o:zmF):Prop:=∃ (j:Nat) (r:Rsp),o=some ((b,(j:Int)),r,()) /\ Small r /\ Rng r
end
end Go.Proofs.Model
