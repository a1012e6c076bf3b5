/- The program's Parse at any offset, and ReplyOnce. -/
import Derived.Test.YtljnndccimlnlaaGreatDoorRw
set_option linter.unusedVariables false
set_option linter.unusedSimpArgs false
set_option maxRecDepth 100000
namespace Go.Proofs.Model
open Go Go.Gx Go.Mx Go.Sx
theorem zoS {r:Rsp} (h:VR r):0 < (wU r).length:=by
 cases h with
 | num k n hk=>rcases hk with rfl | rfl | rfl <;> exact Nat.zero_lt_succ _
 | fet=>exact Nat.zero_lt_succ _
 | fls=>exact Nat.zero_lt_succ _
 | txt k t hk ht=>rcases hk with rfl | rfl | rfl | rfl <;> exact Nat.zero_lt_succ _
 | tag g t s=>show 0 < (g ++ [32] ++ wS s ++ [32] ++ t ++ [13,10]).length;simp only [List.length_append,List.length_cons,List.length_nil];omega
theorem PR.bnd {b:List UInt8} {i:Nat} {r:Rsp} (h:PR b i r):i + (wU r).length <= b.length:=by
 obtain ⟨t,ht⟩:=h.st
 have hl:=ht.len
 rw [List.length_append] at hl
 have:=ht.le
 omega
theorem zpr {b:List UInt8} (hb:b.length <= 100000) (p:Int):(∃ (i:Nat) (r:Rsp),p=i /\ i < b.length /\ PR b i r /\ qM 200000 b p=some (r,((i + (wU r).length:Nat):Int),true,())) \/ qM 200000 b p=ziJ:=by
 by_cases h0:p < 0
 ·right;rw [zhe,decide_eq_true h0];rfl
 ·by_cases h1:((b.length:Nat):Int) <= p
  ·right;rw [zhe,decide_eq_false h0,decide_eq_true h1];rfl
  ·obtain ⟨i,rfl⟩:∃ i:Nat,p=i:=⟨p.toNat,by omega⟩
   have hi:i < b.length:=by omega
   exact (zsh hb hi).imp (fun ⟨r,h,e⟩=>⟨i,r,rfl,hi,h,e⟩) id
theorem zoH (b:List UInt8):qG 200000 b=some (true,()):=by
 unfold qG
 by_cases h:(2000:Int) < (((List.length b):Nat):Int)
 ·rw [decide_eq_true h];rfl
 ·rw [decide_eq_false h,cond_false]
  have hb:b.length <= 100000:=by omega
  rcases zpr hb 0 with ⟨i,r,e0,hi,hp,e⟩ | e
  ·obtain rfl:i=0:=by omega
   rw [e]
   have hbd:=hp.bnd
   rw [Nat.zero_add] at hbd |-
   have hpos:=zoS hp.v
   obtain ⟨v,e2,h2⟩:=zlT r hp.sm
   rw [h2.2 hp.v] at e2
   have hs:slice b 0 (wU r).length=wU r:=by
    obtain ⟨t,ht⟩:=hp.st
    have:=ht.dr
    rw [List.drop_zero] at this
    unfold slice
    rw [this,List.drop_zero,Nat.sub_zero,List.take_left]
   simp only [Option.bind_some,Bool.not_true,cond_false]
   rw [(zbK r hp.sm hp.rg).1 hp.v]
   simp only [Option.bind_some,cond_true]
   have hbn:=zas (Nat.zero_le (wU r).length) hbd
   simp only [Int.natCast_zero] at hbn
   rw [decide_eq_true (show (((wU r).length:Nat):Int) <= ((b.length:Nat):Int) by omega),decide_eq_true (show (0:Int) < (((wU r).length:Nat):Int) by omega),hbn]
   simp only [Bool.and_self,cond_true,Int.toNat_natCast,hs]
   rw [zkk _ _ (by omega) (by omega),beq_self_eq_true]
   simp only [Option.bind_some,cond_true,e2]
  ·rw [e];rfl
end Go.Proofs.Model
