/- The models of reply.Parse, resp.Print and of the reference's, without a program. -/
import Derived.Test.YtokiphiakdfipaaGreatDoorRm
set_option linter.unusedVariables false
set_option maxRecDepth 100000
namespace Go.Proofs.Model
open Go Go.Gx Go.Mx Go.Sx
def kf(N:Nat)(p0:Int)(p1:(El uR1)):Option (Int×Bool×Unit):=
 (cond (decide ((0:Int)<(IntKind.wrap .i64 p1.2.1))) (cond (p1.1==(1:Int)) (some ((if(IntKind.wrap .i64 p1.2.1) > p0 then(IntKind.wrap .i64 p1.2.1) else p0),(decide (p0<=(IntKind.wrap .i64 p1.2.1))),())) (cond (p1.1==(3:Int)) (cond (!(decide ((IntKind.wrap .i64 p1.2.1)<=p0))) (some (p0,false,())) (some ((IntKind.wrap .i64 (p0-(1:Int))),true,()))) (cond (p1.1==(4:Int)) (some (p0,(decide ((IntKind.wrap .i64 p1.2.1)<=p0)),())) (some (p0,true,()))))) (cond (p1.1==(1:Int)) (some ((if(IntKind.wrap .i64 p1.2.1) > p0 then(IntKind.wrap .i64 p1.2.1) else p0),(decide (p0<=(IntKind.wrap .i64 p1.2.1))),())) (cond (p1.1==(3:Int)) (some (p0,false,())) (cond (p1.1==(4:Int)) (some (p0,false,())) (some (p0,true,()))))))
def wA(N:Nat)(p0:Int)(p1:(El uR1)):Option (Int×Bool×Unit):=
 (cond (p1.1==(1:Int)) (some ((if p0 > (IntKind.wrap .i64 p1.2.1) then p0 else(IntKind.wrap .i64 p1.2.1)),(decide (p0<=(IntKind.wrap .i64 p1.2.1))),())) (cond (p1.1==(3:Int)) (cond (decide ((IntKind.wrap .i64 p1.2.1)<(1:Int))) (some (p0,false,())) (cond (decide (p0<(IntKind.wrap .i64 p1.2.1))) (some (p0,false,())) (some ((IntKind.wrap .i64 (p0-(1:Int))),true,())))) (cond (p1.1==(4:Int)) (cond (decide ((1:Int)<=(IntKind.wrap .i64 p1.2.1))) (some (p0,(decide ((IntKind.wrap .i64 p1.2.1)<=p0)),())) (some (p0,false,()))) (some (p0,true,())))))
def xG(N:Nat){R:Type}(x14:List UInt8)(x15:Int)(x16:List (El uR1))(x17:Int)(x18:Int)(x19:Int)(rec_:(List UInt8)->(Int)->(List (El uR1))->(Int)->(Int)->(Int)->Option R)(o0:(Int)->Option R)(o1:(List UInt8)->(Int)->(Int)->Option R):Option R:=
 (cond (decide (x18<x17)) (cond (inb x18 (List.length x16)) (cond ((nth uR1 x16 (Int.toNat x18)).1==(5:Int)) (Option.bind (kf N (0:Int) (nth uR1 x16 (Int.toNat x18))) fun y23=>(cond (!y23.2.1) (o0 y23.1) (rec_ x14 x15 x16 x17 (IntKind.wrap .i64 (x18+(1:Int))) y23.1))) (Option.bind (kf N x19 (nth uR1 x16 (Int.toNat x18))) fun y24=>(cond (!y24.2.1) (o0 y24.1) (rec_ x14 x15 x16 x17 (IntKind.wrap .i64 (x18+(1:Int))) y24.1)))) none) (o1 x14 x15 x19))
def zQ(N:Nat):Nat->(List UInt8)->(Int)->(List (El uR1))->(Int)->(Int)->(Int)->Option (((Int)) ⊕ ((List UInt8)×(Int)×(Int)))
 |0,_,_,_,_,_,_=>none
 |m+1,x14,x15,x16,x17,x18,x19=>xG N x14 x15 x16 x17 x18 x19 (zQ N m) (fun v0=>some (Sum.inl v0)) (fun v0 v1 v2=>some (Sum.inr (v0,v1,v2)))
def kE(N:Nat)(p0:(List UInt8)):Option (Int×Bool×Unit):=
 (Option.bind (zdp N p0) fun y1=>(Option.bind (zQ N N p0 y1.2.1 y1.1 (((List.length y1.1):Nat):Int) (0:Int) (0:Int)) fun o29=>(zv o29 (fun a30=>(some ((0:Int),false,()))) (fun b31=>(cond (decide (b31.2.1<(((List.length b31.1):Nat):Int))) (some ((0:Int),false,())) (some (b31.2.2,true,())))))))
def xK(N:Nat){R:Type}(x5:List (El uR1))(x6:Int)(x7:Int)(rec_:(List (El uR1))->(Int)->(Int)->Option R)(o0:Unit->Option R)(o1:(Int)->Option R):Option R:=
 (cond (decide (x7<(((List.length x5):Nat):Int))) (cond (inb x7 (List.length x5)) (cond ((nth uR1 x5 (Int.toNat x7)).1==(5:Int)) (cond (inb x7 (List.length x5)) (Option.bind (wA N (0:Int) (nth uR1 x5 (Int.toNat x7))) fun y11=>(cond (!y11.2.1) (o0 ()) (rec_ x5 y11.1 (IntKind.wrap .i64 (x7+(1:Int)))))) none) (cond (inb x7 (List.length x5)) (Option.bind (wA N x6 (nth uR1 x5 (Int.toNat x7))) fun y12=>(cond (!y12.2.1) (o0 ()) (rec_ x5 y12.1 (IntKind.wrap .i64 (x7+(1:Int)))))) none)) none) (o1 x6))
def zR(N:Nat):Nat->(List (El uR1))->(Int)->(Int)->Option ((Unit) ⊕ ((Int)))
 |0,_,_,_=>none
 |m+1,x5,x6,x7=>xK N x5 x6 x7 (zR N m) (fun _=>some (Sum.inl ())) (fun v0=>some (Sum.inr v0))
def kH(N:Nat)(p0:(List UInt8)):Option (Int×Bool×Unit):=
 (Option.bind (zak N p0) fun y1=>(cond (y1.2.1 != (((List.length p0):Nat):Int)) (some ((0:Int),false,())) (Option.bind (zR N N y1.1 (0:Int) (0:Int)) fun o17=>(zv o17 (fun a18=>(some ((0:Int),false,()))) (fun b19=>(some (b19,true,())))))))
def kP(N:Nat){R:Type}(x10:List UInt8)(x11:Int)(x12:List (El uR1))(rec_:(List UInt8)->(Int)->(List (El uR1))->Option R)(o0:(Int)->(List (El uR1))->Option R):Option R:=
 (Option.bind (zW N x10 x11) fun y15=>(cond (!y15.2.2.1) (o0 x11 x12) (cond (Nat.blt ((List.length x12)+1) jh) (rec_ x10 y15.2.1 (x12++([y15.1]:List (El uR1)))) none)))
def qc(N:Nat):Nat->(List UInt8)->(Int)->(List (El uR1))->Option ((Int)×(List (El uR1)))
 |0,_,_,_=>none
 |m+1,x10,x11,x12=>kP N x10 x11 x12 (qc N m) (fun v0 v1=>some (v0,v1))
def kR(N:Nat){R:Type}(x19:Int)(x20:Int)(x21:List (El uR1))(rec_:(Int)->(Int)->(List (El uR1))->Option R)(o0:(Int)->(List (El uR1))->Option R)(o1:(List (El uR1))->Option R):Option R:=
 (cond (decide (x20<x19)) (cond (inb x20 (List.length x21)) (cond ((nth uR1 x21 (Int.toNat x20)).1 != (9:Int)) (cond ((nth uR1 x21 (Int.toNat x20)).1 != (8:Int)) (o0 x20 x21) (rec_ x19 (IntKind.wrap .i64 (x20+(1:Int))) x21)) (rec_ x19 (IntKind.wrap .i64 (x20+(1:Int))) x21)) none) (o1 x21))
def qd(N:Nat):Nat->(Int)->(Int)->(List (El uR1))->Option (((Int)×(List (El uR1))) ⊕ ((List (El uR1))))
 |0,_,_,_=>none
 |m+1,x19,x20,x21=>kR N x19 x20 x21 (qd N m) (fun v0 v1=>some (Sum.inl (v0,v1))) (fun v0=>some (Sum.inr v0))
def kT(N:Nat){R:Type}(x30:Int)(x31:Int)(x32:List (El uR1))(rec_:(Int)->(Int)->(List (El uR1))->Option R)(o0:(Int)->(List (El uR1))->Option R):Option R:=
 (cond (decide (x31<(((List.length x32):Nat):Int))) (cond (inb x31 (List.length x32)) (cond ((nth uR1 x32 (Int.toNat x31)).1 != (9:Int)) (cond (!((nth uR1 x32 (Int.toNat x31)).1 != (8:Int))) (cond (inb x30 (List.length x32)) (rec_ (IntKind.wrap .i64 (x30+(1:Int))) (IntKind.wrap .i64 (x31+(1:Int))) (List.set x32 (Int.toNat x30) (nth uR1 x32 (Int.toNat x31)))) none) (rec_ x30 (IntKind.wrap .i64 (x31+(1:Int))) x32)) (cond (inb x30 (List.length x32)) (rec_ (IntKind.wrap .i64 (x30+(1:Int))) (IntKind.wrap .i64 (x31+(1:Int))) (List.set x32 (Int.toNat x30) (nth uR1 x32 (Int.toNat x31)))) none)) none) (o0 x30 x32))
def zS(N:Nat):Nat->(Int)->(Int)->(List (El uR1))->Option ((Int)×(List (El uR1)))
 |0,_,_,_=>none
 |m+1,x30,x31,x32=>kT N x30 x31 x32 (zS N m) (fun v0 v1=>some (v0,v1))
def wT(N:Nat)(p0:(List UInt8)):Option ((List (El uR1))×Unit):=
 (Option.bind (qc N N p0 (0:Int) ([]:List (El uR1))) fun o16=>(Option.bind (qd N N (((List.length o16.2):Nat):Int) (0:Int) o16.2) fun o27=>(zv o27 (fun a28=>(cond (a28.1==(-1:Int)) (some (a28.2,())) (Option.bind (zS N N a28.1 (IntKind.wrap .i64 (a28.1+(1:Int))) a28.2) fun o34=>(cond ((wo o34.1 (((List.length o34.2):Nat):Int) (List.length o34.2))&&true) (cond ((wo (0:Int) o34.1 (List.length (wy o34.2 (Int.toNat o34.1) (List.take ((Int.toNat (((List.length o34.2):Nat):Int))-(Int.toNat o34.1)) (List.replicate ((Int.toNat (((List.length o34.2):Nat):Int))-(Int.toNat o34.1)) ((0:Int),((0:Int),(([]:List UInt8),((0:Int),(([]:List UInt8),((0:Int),((0:UInt8),((0:Int),((0:Int),([]:List UInt8)))))))))))))))&&true) (some ((slice (wy o34.2 (Int.toNat o34.1) (List.take ((Int.toNat (((List.length o34.2):Nat):Int))-(Int.toNat o34.1)) (List.replicate ((Int.toNat (((List.length o34.2):Nat):Int))-(Int.toNat o34.1)) ((0:Int),((0:Int),(([]:List UInt8),((0:Int),(([]:List UInt8),((0:Int),((0:UInt8),((0:Int),((0:Int),([]:List UInt8))))))))))))) 0 (0+((Int.toNat o34.1)-0))),())) none) none)))) (fun b29=>(some (b29,()))))))
def k9(N:Nat){R:Type}(x7:List (El uR1))(x8:Int)(x9:List (El uR1))(rec_:(List (El uR1))->(Int)->(List (El uR1))->Option R)(o0:(List (El uR1))->Option R):Option R:=
 (cond (decide (x8<(((List.length x7):Nat):Int))) (cond (inb x8 (List.length x7)) (cond ((nth uR1 x7 (Int.toNat x8)).1==(8:Int)) (cond (inb x8 (List.length x7)) (cond (Nat.blt ((List.length x9)+1) jh) (rec_ x7 (IntKind.wrap .i64 (x8+(1:Int))) (x9++([(nth uR1 x7 (Int.toNat x8))]:List (El uR1)))) none) none) (cond (inb x8 (List.length x7)) (cond ((nth uR1 x7 (Int.toNat x8)).1==(9:Int)) (cond (inb x8 (List.length x7)) (cond (Nat.blt ((List.length x9)+1) jh) (rec_ x7 (IntKind.wrap .i64 (x8+(1:Int))) (x9++([(nth uR1 x7 (Int.toNat x8))]:List (El uR1)))) none) none) (rec_ x7 (IntKind.wrap .i64 (x8+(1:Int))) x9)) none)) none) (o0 x9))
def qm(N:Nat):Nat->(List (El uR1))->(Int)->(List (El uR1))->Option ((List (El uR1)))
 |0,_,_,_=>none
 |m+1,x7,x8,x9=>k9 N x7 x8 x9 (qm N m) (fun v0=>some v0)
def ka(N:Nat)(p0:(List UInt8)):Option ((List (El uR1))×Unit):=
 (Option.bind (zak N p0) fun y1=>(Option.bind (qm N N y1.1 (0:Int) ([]:List (El uR1))) fun o11=>(some (o11,()))))
def qF(N:Nat)(p0:(List UInt8)):Option (Bool×Unit):=
 (cond (decide ((3000:Int)<(((List.length p0):Nat):Int))) (Option.bind (some (true,())) fun y1=>(some (y1.1,()))) (Option.bind (kE N p0) fun y2=>(Option.bind (kH N p0) fun y3=>(Option.bind (wT N p0) fun y4=>(Option.bind (some (true,())) fun y5=>(cond y5.1 (cond (y2.1==y3.1) (cond (y2.2.1==y3.2.1) (Option.bind (ka N p0) fun y6=>(Option.bind (wE N y4.1 y6.1) fun y7=>(some (y7.1,())))) (some (false,()))) (some (false,()))) (some (false,()))))))))
end Go.Proofs.Model
