/- The program's Parse at any offset, and ReplyOnce. -/
import Derived.Test.YtokiphiakdfipaaGreatDoorRw
set_option linter.unusedVariables false
set_option linter.unusedSimpArgs false
set_option maxRecDepth 100000
namespace Go.Proofs.Model
open Go Go.Gx Go.Mx Go.Sx
theorem zqT{r:Rsp}(h:VR r):0<(qq r).length:=by
 cases h with
 |num k n hk=>rcases hk with rfl|rfl|rfl<;>exact Nat.zero_lt_succ _
 |fet=>exact Nat.zero_lt_succ _
 |fls=>exact Nat.zero_lt_succ _
 |txt k t hk ht=>rcases hk with rfl|rfl|rfl|rfl<;>exact Nat.zero_lt_succ _
 |tag g t s=>show 0<(g++[32]++wS s++[32]++t++[13,10]).length;simp only[List.length_append,List.length_cons,List.length_nil];omega
theorem PR.bnd{b:List UInt8}{i:Nat}{r:Rsp}(h:PR b i r):i+(qq r).length<=b.length:=by
 obtain⟨t,ht⟩:=h.st
 have hl:=ht.len
 rw[List.length_append] at hl
 have:=ht.le
 omega
theorem zmP{b:List UInt8}(hb:b.length<=100000)(p:Int):(∃ (i:Nat) (r:Rsp),p=i/\i<b.length/\PR b i r/\zW 200000 b p=some (r,((i+(qq r).length:Nat):Int),true,()))\/zW 200000 b p=zeU:=by
 by_cases h0:p<0
 ·right;rw[zcX,decide_eq_true h0];rfl
 ·by_cases h1:((b.length:Nat):Int)<=p
  ·right;rw[zcX,decide_eq_false h0,decide_eq_true h1];rfl
  ·obtain⟨i,rfl⟩:∃ i:Nat,p=i:=⟨p.toNat,by omega⟩
   have hi:i<b.length:=by omega
   exact(zsA hb hi).imp (fun⟨r,h,e⟩=>⟨i,r,rfl,hi,h,e⟩) id
end Go.Proofs.Model
