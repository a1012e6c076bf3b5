/- Both write the same forms. -/
import Derived.Test.YtljnndccimlnlaaGreatDoorRh
set_option linter.unusedVariables false
set_option linter.unusedSimpArgs false
set_option maxRecDepth 100000
namespace Go.Proofs.Model
open Go Go.Gx Go.Mx Go.Sx
theorem j1(a:List UInt8):Go.Lib.join [a] [32]=a:=Go.Lib.join_one a [32]
theorem j2(a b:List UInt8):Go.Lib.join [a,b] [32]=a++[32]++b:=by simp [Go.Lib.join_cons,Go.Lib.joinTail]
theorem j3(a b c:List UInt8):Go.Lib.join [a,b,c] [32]=a++[32]++b++[32]++c:=by simp [Go.Lib.join_cons,Go.Lib.joinTail]
theorem j4(a b c d:List UInt8):Go.Lib.join [a,b,c,d] [32]=a++[32]++b++[32]++c++[32]++d:=by simp [Go.Lib.join_cons,Go.Lib.joinTail]
theorem zxH{a:Nat}(h:a<=140737488355328):Nat.ble a zbm=true:=by rw[Nat.ble_eq];exact h
theorem ziH(f:UInt8)(h:f<=31):(pF f).length<=100:=by unfold pF;have:=(zaV f h).2.2.2.2.2;simp only[List.length_append,List.length_cons,List.length_nil];omega
theorem ziJ(n:Nat):(pU n).length<=100:=by unfold pU;have:=wF n;simp only[List.length_append,List.length_cons,List.length_nil];omega
theorem ziI(n:Nat):(pS n).length<=100:=by unfold pS;have:=wF n;simp only[List.length_append,List.length_cons,List.length_nil];omega
theorem ziG(b:List UInt8)(h:b.length<=100000):(pB b).length<=100100:=by unfold pB ze9;have:=wF b.length;simp only[List.length_append,List.length_cons,List.length_nil];omega
theorem zuJ(r:Rsp)(h:r.2.2.2.2.2.2.1<=31):kQ 200000 r=some (pF r.2.2.2.2.2.2.1,()):=by
 unfold kQ pF
 obtain⟨h1,_,_,_,_,h6⟩:=zaV _ h
 rw[h1]
 simp (disch:=(first|omega|(simp only[List.length_append,List.length_cons,List.length_nil];omega))) only[Option.bind_some,xL,cond_true]
theorem zuK(r:Rsp)(n:Nat)(hn:n<4294967296)(e:r.2.2.2.2.2.2.2.1=(n:Int)):ke 200000 r=some (pU n,()):=by
 unfold ke pU
 have:=wF n
 rw[e,zbG 200000 n (by omega) hn]
 simp (disch:=(first|omega|(simp only[List.length_append,List.length_cons,List.length_nil];omega))) only[Option.bind_some,xL,cond_true]
theorem zuL(r:Rsp)(n:Nat)(hn:n<4294967296)(e:r.2.2.2.2.2.2.2.2.1=(n:Int)):jN 200000 r=some (pS n,()):=by
 unfold jN pS
 have:=wF n
 rw[e,zbG 200000 n (by omega) hn]
 simp (disch:=(first|omega|(simp only[List.length_append,List.length_cons,List.length_nil];omega))) only[Option.bind_some,xL,cond_true]
theorem zuM(r:Rsp)(h:r.2.2.2.2.2.2.2.2.2.length<=100000):qC 200000 r=some (pB r.2.2.2.2.2.2.2.2.2,()):=by
 unfold qC pB
 rw[zrv _ h]
 have:(ze9 r.2.2.2.2.2.2.2.2.2).length<=100100:=by have:=ziG _ h;unfold pB at this;rw[List.length_append] at this;omega
 simp (disch:=(first|omega|(simp only[List.length_append,List.length_cons,List.length_nil];omega))) only[Option.bind_some,xL,cond_true]
set_option maxHeartbeats 4000000 in
theorem zo6(n uid sz:Nat)(it:Int)(fl:UInt8)(body:List UInt8)(h1:fl<=31)(h2:body.length<=100000)(hn:n<4294967296)(hu:uid<4294967296)(hs:sz<4294967296):
  wJ 200000 (4,((n:Int),([],(0,([],(it,(fl,((uid:Int),((sz:Int),body)))))))))=some ([42,32]++dec n++[32,70,69,84,67,72,32,40]++j6 (bI it 1) (bI it 2) (bI it 4) (bI it 16) fl uid sz body++[41],()):=by
 unfold wJ
 rw[zuJ _ h1,zuK _ uid hu rfl,zuL _ sz hs rfl,zuM _ h2]
 have l1:=ziH fl h1;have l2:=ziJ uid;have l3:=ziI sz;have l4:=ziG body h2;have l5:=wF n
 dsimp only
 rw[zbG 200000 n (by omega) hn]
 simp only[show ∀ k,(zd .and .i64 it k != 0)=bI it k from fun _=>rfl]
 unfold j6 zf8
 generalize pF fl=x1 at l1 |-
 generalize pU uid=x2 at l2 |-
 generalize pS sz=x3 at l3 |-
 generalize pB body=x4 at l4 |-
 generalize dec n=d at l5 |-
 cases bI it 1<;>cases bI it 2<;>cases bI it 4<;>cases bI it 16 <;>
  simp (disch:=(first|omega|(simp only[List.length_append,List.length_cons,List.length_nil];omega))) only[cond_true,cond_false,Option.bind_some,List.nil_append,List.cons_append,j1,j2,j3,j4,Go.Lib.join_nil,xL,zxH,Bool.and_self]
end Go.Proofs.Model
