/- Both write the same forms. -/
import Derived.Test.YtokiphiakdfipaaGreatDoorRh
set_option linter.unusedVariables false
set_option linter.unusedSimpArgs false
set_option maxRecDepth 100000
namespace Go.Proofs.Model
open Go Go.Gx Go.Mx Go.Sx
theorem j1(a:List UInt8):Go.Lib.join [a] [32]=a:=Go.Lib.join_one a [32]
theorem j2(a b:List UInt8):Go.Lib.join [a,b] [32]=a++[32]++b:=by simp [Go.Lib.join_cons,Go.Lib.joinTail]
theorem j3(a b c:List UInt8):Go.Lib.join [a,b,c] [32]=a++[32]++b++[32]++c:=by simp [Go.Lib.join_cons,Go.Lib.joinTail]
theorem j4(a b c d:List UInt8):Go.Lib.join [a,b,c,d] [32]=a++[32]++b++[32]++c++[32]++d:=by simp [Go.Lib.join_cons,Go.Lib.joinTail]
theorem zwH{a:Nat}(h:a<=140737488355328):Nat.ble a zaA=true:=by rw[Nat.ble_eq];exact h
theorem zkr(f:UInt8)(h:f<=31):(pF f).length<=100:=by unfold pF;have:=(za3 f h).2.2.2.2.2;simp only[List.length_append,List.length_cons,List.length_nil];omega
theorem zkt(n:Nat):(pU n).length<=100:=by unfold pU;have:=ju n;simp only[List.length_append,List.length_cons,List.length_nil];omega
theorem zks(n:Nat):(pS n).length<=100:=by unfold pS;have:=ju n;simp only[List.length_append,List.length_cons,List.length_nil];omega
theorem zh9(b:List UInt8)(h:b.length<=100000):(pB b).length<=100100:=by unfold pB ze0;have:=ju b.length;simp only[List.length_append,List.length_cons,List.length_nil];omega
theorem ztR(r:Rsp)(h:r.2.2.2.2.2.2.1<=31):kJ 200000 r=some (pF r.2.2.2.2.2.2.1,()):=by
 unfold kJ pF
 obtain⟨h1,_,_,_,_,h6⟩:=za3 _ h
 rw[h1]
 simp (disch:=(first|omega|(simp only[List.length_append,List.length_cons,List.length_nil];omega))) only[Option.bind_some,wI,cond_true]
theorem ztS(r:Rsp)(n:Nat)(hn:n<4294967296)(e:r.2.2.2.2.2.2.2.1=(n:Int)):wB 200000 r=some (pU n,()):=by
 unfold wB pU
 have:=ju n
 rw[e,za2 200000 n (by omega) hn]
 simp (disch:=(first|omega|(simp only[List.length_append,List.length_cons,List.length_nil];omega))) only[Option.bind_some,wI,cond_true]
theorem ztT(r:Rsp)(n:Nat)(hn:n<4294967296)(e:r.2.2.2.2.2.2.2.2.1=(n:Int)):jn 200000 r=some (pS n,()):=by
 unfold jn pS
 have:=ju n
 rw[e,za2 200000 n (by omega) hn]
 simp (disch:=(first|omega|(simp only[List.length_append,List.length_cons,List.length_nil];omega))) only[Option.bind_some,wI,cond_true]
theorem ztU(r:Rsp)(h:r.2.2.2.2.2.2.2.2.2.length<=100000):z8 200000 r=some (pB r.2.2.2.2.2.2.2.2.2,()):=by
 unfold z8 pB
 rw[zq6 _ h]
 have:(ze0 r.2.2.2.2.2.2.2.2.2).length<=100100:=by have:=zh9 _ h;unfold pB at this;rw[List.length_append] at this;omega
 simp (disch:=(first|omega|(simp only[List.length_append,List.length_cons,List.length_nil];omega))) only[Option.bind_some,wI,cond_true]
set_option maxHeartbeats 4000000 in
theorem zoB(n uid sz:Nat)(it:Int)(fl:UInt8)(body:List UInt8)(h1:fl<=31)(h2:body.length<=100000)(hn:n<4294967296)(hu:uid<4294967296)(hs:sz<4294967296):
  wF 200000 (4,((n:Int),([],(0,([],(it,(fl,((uid:Int),((sz:Int),body)))))))))=some ([42,32]++dec n++[32,70,69,84,67,72,32,40]++jg (bI it 1) (bI it 2) (bI it 4) (bI it 16) fl uid sz body++[41],()):=by
 unfold wF
 rw[ztR _ h1,ztS _ uid hu rfl,ztT _ sz hs rfl,ztU _ h2]
 have l1:=zkr fl h1;have l2:=zkt uid;have l3:=zks sz;have l4:=zh9 body h2;have l5:=ju n
 dsimp only
 rw[za2 200000 n (by omega) hn]
 simp only[show ∀ k,(zd .and .i64 it k != 0)=bI it k from fun _=>rfl]
 unfold jg zg0
 generalize pF fl=x1 at l1 |-
 generalize pU uid=x2 at l2 |-
 generalize pS sz=x3 at l3 |-
 generalize pB body=x4 at l4 |-
 generalize dec n=d at l5 |-
 cases bI it 1<;>cases bI it 2<;>cases bI it 4<;>cases bI it 16 <;>
  simp (disch:=(first|omega|(simp only[List.length_append,List.length_cons,List.length_nil];omega))) only[cond_true,cond_false,Option.bind_some,List.nil_append,List.cons_append,j1,j2,j3,j4,Go.Lib.join_nil,wI,zwH,Bool.and_self]
set_option maxHeartbeats 4000000 in
theorem zqY(n uid sz:Nat)(it:Int)(fl:UInt8)(body:List UInt8)(h1:fl<=31)(h2:body.length<=100000)(hn:n<4294967296)(hu:uid<4294967296)(hs:sz<4294967296)(h0:itB (bI it 1) (bI it 2) (bI it 4) (bI it 16)≠0):
  xP 200000 (4,((n:Int),([],(0,([],(it,(fl,((uid:Int),((sz:Int),body)))))))))=some (jg (bI it 1) (bI it 2) (bI it 4) (bI it 16) fl uid sz body,()):=by
 unfold xP
 dsimp only
 have l1:=zkr fl h1;have l2:=zkt uid;have l3:=zks sz;have l4:=zh9 body h2
 have hfl:IntKind.wrap .i64 ((UInt8.toNat fl:Nat):Int)=((fl.toNat:Nat):Int):=zqs (by have:=fl.toNat_lt;omega)
 rw[hfl,(za3 fl h1).2.1,zcW uid hu,zcW sz hs,zoY _ h2]
 simp only[show ∀ k,(zd .and .i64 it k != 0)=bI it k from fun _=>rfl,Option.bind_some]
 rw[show([70,76,65,71,83,32]:List UInt8)++(flB fl++[41])=pF fl from rfl,show([85,73,68,32]:List UInt8)++dec uid=pU uid from rfl,show([82,70,67,56,50,50,46,83,73,90,69,32]:List UInt8)++dec sz=pS sz from rfl,show([66,79,68,89,91,93,32]:List UInt8)++ze0 body=pB body from rfl]
 have k1:(flB fl++[41]).length<=100:=by have:=l1;unfold pF at this;rw[List.length_append] at this;omega
 have k2:(dec uid).length<=100:=by have:=ju uid;omega
 have k3:(dec sz).length<=100:=by have:=ju sz;omega
 have k4:(ze0 body).length<=100100:=by have:=l4;unfold pB at this;rw[List.length_append] at this;omega
 unfold jg zg0
 generalize pF fl=x1 at l1 |-
 generalize pU uid=x2 at l2 |-
 generalize pS sz=x3 at l3 |-
 generalize pB body=x4 at l4 |-
 generalize flB fl++[41]=q1 at k1 |-
 generalize dec uid=q2 at k2 |-
 generalize dec sz=q3 at k3 |-
 generalize ze0 body=q4 at k4 |-
 revert h0
 cases bI it 1<;>cases bI it 2<;>cases bI it 4<;>cases bI it 16<;>intro h0<;>first
  |(exact absurd rfl h0)
  |(simp (disch:=(first|omega|(simp only[List.length_append,List.length_cons,List.length_nil];omega))) only[cond_true,cond_false,List.nil_append,List.cons_append,j1,j2,j3,j4,wI,List.append_nil];done)
  |(simp (disch:=(first|omega|(simp only[List.length_append,List.length_cons,List.length_nil];omega))) only[cond_true,cond_false,List.nil_append,List.cons_append,j1,j2,j3,j4,wI,List.append_nil];rfl)
end Go.Proofs.Model
