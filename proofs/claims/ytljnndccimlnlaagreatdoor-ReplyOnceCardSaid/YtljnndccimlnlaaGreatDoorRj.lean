/- Both write the same forms. -/
import Derived.Test.YtljnndccimlnlaaGreatDoorRh
set_option linter.unusedVariables false
set_option linter.unusedSimpArgs false
set_option maxRecDepth 100000
namespace Go.Proofs.Model
open Go Go.Gx Go.Mx Go.Sx
theorem j1 (a:List UInt8):Go.Lib.join [a] [32]=a:=Go.Lib.join_one a [32]
theorem j2 (a b:List UInt8):Go.Lib.join [a,b] [32]=a ++ [32] ++ b:=by simp [Go.Lib.join_cons,Go.Lib.joinTail]
theorem j3 (a b c:List UInt8):Go.Lib.join [a,b,c] [32]=a ++ [32] ++ b ++ [32] ++ c:=by simp [Go.Lib.join_cons,Go.Lib.joinTail]
theorem j4 (a b c d:List UInt8):Go.Lib.join [a,b,c,d] [32]=a ++ [32] ++ b ++ [32] ++ c ++ [32] ++ d:=by simp [Go.Lib.join_cons,Go.Lib.joinTail]
theorem zt6 {a:Nat} (h:a <= 140737488355328):Nat.ble a kW=true:=by rw [Nat.ble_eq];exact h
theorem zqo (f:UInt8) (h:f <= 31):(pF f).length <= 100:=by unfold pF;have:=(zgZ f h).2.2.2.2.2;simp only [List.length_append,List.length_cons,List.length_nil];omega
theorem zqj (n:Nat):(pU n).length <= 100:=by unfold pU;have:=zaG n;simp only [List.length_append,List.length_cons,List.length_nil];omega
theorem zp5 (n:Nat):(pS n).length <= 100:=by unfold pS;have:=zaG n;simp only [List.length_append,List.length_cons,List.length_nil];omega
theorem znl (b:List UInt8) (h:b.length <= 100000):(pB b).length <= 100100:=by unfold pB zsm;have:=zaG b.length;simp only [List.length_append,List.length_cons,List.length_nil];omega
theorem zrN (r:Rsp) (h:r.2.2.2.2.2.2.1 <= 31):wH 200000 r=some (pF r.2.2.2.2.2.2.1,()):=by
 unfold wH pF
 obtain ⟨h1,_,_,_,_,h6⟩:=zgZ _ h
 rw [h1]
 simp (disch:=(first | omega | (simp only [List.length_append,List.length_cons,List.length_nil];omega))) only [Option.bind_some,zbv,cond_true]
theorem zrs (r:Rsp) (n:Nat) (hn:n < 4294967296) (e:r.2.2.2.2.2.2.2.1=(n:Int)):jK 200000 r=some (pU n,()):=by
 unfold jK pU
 have:=zaG n
 rw [e,xT 200000 n (by omega) hn]
 simp (disch:=(first | omega | (simp only [List.length_append,List.length_cons,List.length_nil];omega))) only [Option.bind_some,zbv,cond_true]
theorem zrB (r:Rsp) (n:Nat) (hn:n < 4294967296) (e:r.2.2.2.2.2.2.2.2.1=(n:Int)):qE 200000 r=some (pS n,()):=by
 unfold qE pS
 have:=zaG n
 rw [e,xT 200000 n (by omega) hn]
 simp (disch:=(first | omega | (simp only [List.length_append,List.length_cons,List.length_nil];omega))) only [Option.bind_some,zbv,cond_true]
theorem zrr (r:Rsp) (h:r.2.2.2.2.2.2.2.2.2.length <= 100000):zK 200000 r=some (pB r.2.2.2.2.2.2.2.2.2,()):=by
 unfold zK pB
 rw [zod _ h]
 have:(zsm r.2.2.2.2.2.2.2.2.2).length <= 100100:=by have:=znl _ h;unfold pB at this;rw [List.length_append] at this;omega
 simp (disch:=(first | omega | (simp only [List.length_append,List.length_cons,List.length_nil];omega))) only [Option.bind_some,zbv,cond_true]
set_option maxHeartbeats 4000000 in
theorem znh (n uid sz:Nat) (it:Int) (fl:UInt8) (body:List UInt8) (h1:fl <= 31) (h2:body.length <= 100000) (hn:n < 4294967296) (hu:uid < 4294967296) (hs:sz < 4294967296):
  jP 200000 (4,((n:Int),([],(0,([],(it,(fl,((uid:Int),((sz:Int),body)))))))))=some ([42,32] ++ dec n ++ [32,70,69,84,67,72,32,40] ++ ze7 (bI it 1) (bI it 2) (bI it 4) (bI it 16) fl uid sz body ++ [41],()):=by
 unfold jP
 rw [zrN _ h1,zrs _ uid hu rfl,zrB _ sz hs rfl,zrr _ h2]
 have l1:=zqo fl h1;have l2:=zqj uid;have l3:=zp5 sz;have l4:=znl body h2;have l5:=zaG n
 dsimp only
 rw [xT 200000 n (by omega) hn]
 simp only [show ∀ k,(zd .and .i64 it k != 0)=bI it k from fun _=>rfl]
 unfold ze7 zm5
 generalize pF fl=x1 at l1 |-
 generalize pU uid=x2 at l2 |-
 generalize pS sz=x3 at l3 |-
 generalize pB body=x4 at l4 |-
 generalize dec n=d at l5 |-
 cases bI it 1 <;> cases bI it 2 <;> cases bI it 4 <;> cases bI it 16 <;>
  simp (disch:=(first | omega | (simp only [List.length_append,List.length_cons,List.length_nil];omega))) only [cond_true,cond_false,Option.bind_some,List.nil_append,List.cons_append,j1,j2,j3,j4,Go.Lib.join_nil,zbv,zt6,Bool.and_self]
end Go.Proofs.Model
