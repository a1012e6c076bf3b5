/- Machines and laws 6. -/
import Derived.Test.YtjojhgpaaocnoaaGreatDoorB5
import Derived.KernelRfl
import Derived.Lib.Join
set_option linter.unusedVariables false
set_option maxRecDepth 100000
set_option linter.unusedSectionVars false
set_option linter.unusedSimpArgs false
namespace Go.Proofs.Model
open Go Go.Gx Go.Mx Go.Sx
def zoR:List UInt8:=([0,0,0,0,0,0,0,0,0,0,0,0,0,0,0,0,0,0,0,0,0,0,0,0]:List UInt8)
def zjd:List UInt8:=([48,49,50,51,52,53,54,55,56,57,97,98,99,100,101,102]:List UInt8)
def z8(N:Nat){R:Type}(x3:Nat)(x4:Nat)(x5:Int)(x6:Int)(x7:List UInt8)(rec_:(Nat)->(Nat)->(Int)->(Int)->(List UInt8)->Option R)(o0:(Nat)->(Nat)->(Int)->(Int)->(List UInt8)->Option R):Option R:=
 (cond (decide ((8:Int)<=x6)) (cond (inb (IntKind.wrap .u32 ((IntKind.wrap .u32 ((Int.tmod (Int.tmod (IntKind.wrap .u32 (Int.tmod x5 (100000000:Int))) (10000:Int)) (100:Int))*(2:Int)))+(1:Int))) 200) (cond (inb (IntKind.wrap .u32 ((Int.tmod (Int.tmod (IntKind.wrap .u32 (Int.tmod x5 (100000000:Int))) (10000:Int)) (100:Int))*(2:Int))) 200) (cond (inb (IntKind.wrap .i64 (x6-(1:Int))) x4) (cond (inb (IntKind.wrap .i64 (x6-(2:Int))) x4) (cond (inb (IntKind.wrap .u32 ((IntKind.wrap .u32 ((IntKind.wrap .u32 (Int.tdiv (Int.tmod (IntKind.wrap .u32 (Int.tmod x5 (100000000:Int))) (10000:Int)) (100:Int)))*(2:Int)))+(1:Int))) 200) (cond (inb (IntKind.wrap .u32 ((IntKind.wrap .u32 (Int.tdiv (Int.tmod (IntKind.wrap .u32 (Int.tmod x5 (100000000:Int))) (10000:Int)) (100:Int)))*(2:Int))) 200) (cond (inb (IntKind.wrap .i64 (x6-(3:Int))) x4) (cond (inb (IntKind.wrap .i64 (x6-(4:Int))) x4) (cond (inb (IntKind.wrap .u32 ((IntKind.wrap .u32 ((Int.tmod (IntKind.wrap .u32 (Int.tdiv (IntKind.wrap .u32 (Int.tmod x5 (100000000:Int))) (10000:Int))) (100:Int))*(2:Int)))+(1:Int))) 200) (cond (inb (IntKind.wrap .u32 ((Int.tmod (IntKind.wrap .u32 (Int.tdiv (IntKind.wrap .u32 (Int.tmod x5 (100000000:Int))) (10000:Int))) (100:Int))*(2:Int))) 200) (cond (inb (IntKind.wrap .i64 (x6-(5:Int))) x4) (cond (inb (IntKind.wrap .i64 (x6-(6:Int))) x4) (cond (inb (IntKind.wrap .u32 ((IntKind.wrap .u32 ((IntKind.wrap .u32 (Int.tdiv (IntKind.wrap .u32 (Int.tdiv (IntKind.wrap .u32 (Int.tmod x5 (100000000:Int))) (10000:Int))) (100:Int)))*(2:Int)))+(1:Int))) 200) (cond (inb (IntKind.wrap .u32 ((IntKind.wrap .u32 (Int.tdiv (IntKind.wrap .u32 (Int.tdiv (IntKind.wrap .u32 (Int.tmod x5 (100000000:Int))) (10000:Int))) (100:Int)))*(2:Int))) 200) (cond (inb (IntKind.wrap .i64 (x6-(7:Int))) x4) (cond (inb (IntKind.wrap .i64 (x6-(8:Int))) x4) (rec_ x3 x4 (IntKind.wrap .u64 (Int.tdiv x5 (100000000:Int))) (IntKind.wrap .i64 (x6-(8:Int))) (List.set (List.set (List.set (List.set (List.set (List.set (List.set (List.set x7 (x3+(Int.toNat (IntKind.wrap .i64 (x6-(1:Int))))) (nth .u8 ze (Int.toNat (IntKind.wrap .u32 ((IntKind.wrap .u32 ((Int.tmod (Int.tmod (IntKind.wrap .u32 (Int.tmod x5 (100000000:Int))) (10000:Int)) (100:Int))*(2:Int)))+(1:Int)))))) (x3+(Int.toNat (IntKind.wrap .i64 (x6-(2:Int))))) (nth .u8 ze (Int.toNat (IntKind.wrap .u32 ((Int.tmod (Int.tmod (IntKind.wrap .u32 (Int.tmod x5 (100000000:Int))) (10000:Int)) (100:Int))*(2:Int)))))) (x3+(Int.toNat (IntKind.wrap .i64 (x6-(3:Int))))) (nth .u8 ze (Int.toNat (IntKind.wrap .u32 ((IntKind.wrap .u32 ((IntKind.wrap .u32 (Int.tdiv (Int.tmod (IntKind.wrap .u32 (Int.tmod x5 (100000000:Int))) (10000:Int)) (100:Int)))*(2:Int)))+(1:Int)))))) (x3+(Int.toNat (IntKind.wrap .i64 (x6-(4:Int))))) (nth .u8 ze (Int.toNat (IntKind.wrap .u32 ((IntKind.wrap .u32 (Int.tdiv (Int.tmod (IntKind.wrap .u32 (Int.tmod x5 (100000000:Int))) (10000:Int)) (100:Int)))*(2:Int)))))) (x3+(Int.toNat (IntKind.wrap .i64 (x6-(5:Int))))) (nth .u8 ze (Int.toNat (IntKind.wrap .u32 ((IntKind.wrap .u32 ((Int.tmod (IntKind.wrap .u32 (Int.tdiv (IntKind.wrap .u32 (Int.tmod x5 (100000000:Int))) (10000:Int))) (100:Int))*(2:Int)))+(1:Int)))))) (x3+(Int.toNat (IntKind.wrap .i64 (x6-(6:Int))))) (nth .u8 ze (Int.toNat (IntKind.wrap .u32 ((Int.tmod (IntKind.wrap .u32 (Int.tdiv (IntKind.wrap .u32 (Int.tmod x5 (100000000:Int))) (10000:Int))) (100:Int))*(2:Int)))))) (x3+(Int.toNat (IntKind.wrap .i64 (x6-(7:Int))))) (nth .u8 ze (Int.toNat (IntKind.wrap .u32 ((IntKind.wrap .u32 ((IntKind.wrap .u32 (Int.tdiv (IntKind.wrap .u32 (Int.tdiv (IntKind.wrap .u32 (Int.tmod x5 (100000000:Int))) (10000:Int))) (100:Int)))*(2:Int)))+(1:Int)))))) (x3+(Int.toNat (IntKind.wrap .i64 (x6-(8:Int))))) (nth .u8 ze (Int.toNat (IntKind.wrap .u32 ((IntKind.wrap .u32 (Int.tdiv (IntKind.wrap .u32 (Int.tdiv (IntKind.wrap .u32 (Int.tmod x5 (100000000:Int))) (10000:Int))) (100:Int)))*(2:Int))))))) none) none) none) none) none) none) none) none) none) none) none) none) none) none) none) none) (o0 x3 x4 x5 x6 x7))
def zd(N:Nat):Nat->(Nat)->(Nat)->(Int)->(Int)->(List UInt8)->Option ((Nat)×(Nat)×(Int)×(Int)×(List UInt8))
 |0,_,_,_,_,_=>none
 |m+1,x3,x4,x5,x6,x7=>z8 N x3 x4 x5 x6 x7 (zd N m) (fun v0 v1 v2 v3 v4=>some (v0,v1,v2,v3,v4))
def zA(N:Nat)(p0:Int):Option ((List UInt8)×Unit):=
 (cond (decide ((0:Int)<=p0)) (cond (decide (p0<(100:Int))) (Option.bind (qU N p0) fun y1=>(some (y1.1,()))) (cond (decide (p0<(0:Int))) (Option.bind (zf N (IntKind.wrap .u64 (0-(IntKind.wrap .u64 p0)))) fun y2=>(cond (zE (1:Int) (IntKind.wrap .i64 ((1:Int)+y2.1)) 24) (Option.bind (zd N N 1 ((Int.toNat (IntKind.wrap .i64 ((1:Int)+y2.1)))-1) (IntKind.wrap .u64 (0-(IntKind.wrap .u64 p0))) ((((Int.toNat (IntKind.wrap .i64 ((1:Int)+y2.1)))-1):Nat):Int) zoR) fun o9=>(cond (decide ((4:Int)<=o9.2.2.2.1)) (cond (inb (IntKind.wrap .u32 ((IntKind.wrap .u32 ((Int.tmod (Int.tmod (IntKind.wrap .u32 o9.2.2.1) (10000:Int)) (100:Int))*(2:Int)))+(1:Int))) 200) (cond (inb (IntKind.wrap .u32 ((Int.tmod (Int.tmod (IntKind.wrap .u32 o9.2.2.1) (10000:Int)) (100:Int))*(2:Int))) 200) (cond (inb (IntKind.wrap .i64 (o9.2.2.2.1-(1:Int))) o9.2.1) (cond (inb (IntKind.wrap .i64 (o9.2.2.2.1-(2:Int))) o9.2.1) (cond (inb (IntKind.wrap .u32 ((IntKind.wrap .u32 ((IntKind.wrap .u32 (Int.tdiv (Int.tmod (IntKind.wrap .u32 o9.2.2.1) (10000:Int)) (100:Int)))*(2:Int)))+(1:Int))) 200) (cond (inb (IntKind.wrap .u32 ((IntKind.wrap .u32 (Int.tdiv (Int.tmod (IntKind.wrap .u32 o9.2.2.1) (10000:Int)) (100:Int)))*(2:Int))) 200) (cond (inb (IntKind.wrap .i64 (o9.2.2.2.1-(3:Int))) o9.2.1) (cond (inb (IntKind.wrap .i64 (o9.2.2.2.1-(4:Int))) o9.2.1) (cond (decide ((2:Int)<=(IntKind.wrap .i64 (o9.2.2.2.1-(4:Int))))) (cond (inb (IntKind.wrap .u32 ((IntKind.wrap .u32 ((Int.tmod (IntKind.wrap .u32 (Int.tdiv (IntKind.wrap .u32 o9.2.2.1) (10000:Int))) (100:Int))*(2:Int)))+(1:Int))) 200) (cond (inb (IntKind.wrap .u32 ((Int.tmod (IntKind.wrap .u32 (Int.tdiv (IntKind.wrap .u32 o9.2.2.1) (10000:Int))) (100:Int))*(2:Int))) 200) (cond (inb (IntKind.wrap .i64 ((IntKind.wrap .i64 (o9.2.2.2.1-(4:Int)))-(1:Int))) o9.2.1) (cond (inb (IntKind.wrap .i64 ((IntKind.wrap .i64 (o9.2.2.2.1-(4:Int)))-(2:Int))) o9.2.1) (cond (decide ((0:Int)<(IntKind.wrap .i64 ((IntKind.wrap .i64 (o9.2.2.2.1-(4:Int)))-(2:Int))))) (cond (inb (0:Int) o9.2.1) (cond (decide (p0<(0:Int))) (cond (zE (0:Int) (IntKind.wrap .i64 ((1:Int)+y2.1)) 24) (some ((slice (List.set (List.set (List.set (List.set (List.set (List.set (List.set (List.set o9.2.2.2.2 (o9.1+(Int.toNat (IntKind.wrap .i64 (o9.2.2.2.1-(1:Int))))) (nth .u8 ze (Int.toNat (IntKind.wrap .u32 ((IntKind.wrap .u32 ((Int.tmod (Int.tmod (IntKind.wrap .u32 o9.2.2.1) (10000:Int)) (100:Int))*(2:Int)))+(1:Int)))))) (o9.1+(Int.toNat (IntKind.wrap .i64 (o9.2.2.2.1-(2:Int))))) (nth .u8 ze (Int.toNat (IntKind.wrap .u32 ((Int.tmod (Int.tmod (IntKind.wrap .u32 o9.2.2.1) (10000:Int)) (100:Int))*(2:Int)))))) (o9.1+(Int.toNat (IntKind.wrap .i64 (o9.2.2.2.1-(3:Int))))) (nth .u8 ze (Int.toNat (IntKind.wrap .u32 ((IntKind.wrap .u32 ((IntKind.wrap .u32 (Int.tdiv (Int.tmod (IntKind.wrap .u32 o9.2.2.1) (10000:Int)) (100:Int)))*(2:Int)))+(1:Int)))))) (o9.1+(Int.toNat (IntKind.wrap .i64 (o9.2.2.2.1-(4:Int))))) (nth .u8 ze (Int.toNat (IntKind.wrap .u32 ((IntKind.wrap .u32 (Int.tdiv (Int.tmod (IntKind.wrap .u32 o9.2.2.1) (10000:Int)) (100:Int)))*(2:Int)))))) (o9.1+(Int.toNat (IntKind.wrap .i64 ((IntKind.wrap .i64 (o9.2.2.2.1-(4:Int)))-(1:Int))))) (nth .u8 ze (Int.toNat (IntKind.wrap .u32 ((IntKind.wrap .u32 ((Int.tmod (IntKind.wrap .u32 (Int.tdiv (IntKind.wrap .u32 o9.2.2.1) (10000:Int))) (100:Int))*(2:Int)))+(1:Int)))))) (o9.1+(Int.toNat (IntKind.wrap .i64 ((IntKind.wrap .i64 (o9.2.2.2.1-(4:Int)))-(2:Int))))) (nth .u8 ze (Int.toNat (IntKind.wrap .u32 ((Int.tmod (IntKind.wrap .u32 (Int.tdiv (IntKind.wrap .u32 o9.2.2.1) (10000:Int))) (100:Int))*(2:Int)))))) (o9.1+0) (jc (IntKind.wrap .u32 ((48:Int)+(IntKind.wrap .u32 (Int.tdiv (IntKind.wrap .u32 (Int.tdiv (IntKind.wrap .u32 o9.2.2.1) (10000:Int))) (100:Int))))))) 0 (45:UInt8)) 0 (0+((Int.toNat (IntKind.wrap .i64 ((1:Int)+y2.1)))-0))),())) none) (cond (zE (1:Int) (IntKind.wrap .i64 ((1:Int)+y2.1)) 24) (some ((slice (List.set (List.set (List.set (List.set (List.set (List.set (List.set o9.2.2.2.2 (o9.1+(Int.toNat (IntKind.wrap .i64 (o9.2.2.2.1-(1:Int))))) (nth .u8 ze (Int.toNat (IntKind.wrap .u32 ((IntKind.wrap .u32 ((Int.tmod (Int.tmod (IntKind.wrap .u32 o9.2.2.1) (10000:Int)) (100:Int))*(2:Int)))+(1:Int)))))) (o9.1+(Int.toNat (IntKind.wrap .i64 (o9.2.2.2.1-(2:Int))))) (nth .u8 ze (Int.toNat (IntKind.wrap .u32 ((Int.tmod (Int.tmod (IntKind.wrap .u32 o9.2.2.1) (10000:Int)) (100:Int))*(2:Int)))))) (o9.1+(Int.toNat (IntKind.wrap .i64 (o9.2.2.2.1-(3:Int))))) (nth .u8 ze (Int.toNat (IntKind.wrap .u32 ((IntKind.wrap .u32 ((IntKind.wrap .u32 (Int.tdiv (Int.tmod (IntKind.wrap .u32 o9.2.2.1) (10000:Int)) (100:Int)))*(2:Int)))+(1:Int)))))) (o9.1+(Int.toNat (IntKind.wrap .i64 (o9.2.2.2.1-(4:Int))))) (nth .u8 ze (Int.toNat (IntKind.wrap .u32 ((IntKind.wrap .u32 (Int.tdiv (Int.tmod (IntKind.wrap .u32 o9.2.2.1) (10000:Int)) (100:Int)))*(2:Int)))))) (o9.1+(Int.toNat (IntKind.wrap .i64 ((IntKind.wrap .i64 (o9.2.2.2.1-(4:Int)))-(1:Int))))) (nth .u8 ze (Int.toNat (IntKind.wrap .u32 ((IntKind.wrap .u32 ((Int.tmod (IntKind.wrap .u32 (Int.tdiv (IntKind.wrap .u32 o9.2.2.1) (10000:Int))) (100:Int))*(2:Int)))+(1:Int)))))) (o9.1+(Int.toNat (IntKind.wrap .i64 ((IntKind.wrap .i64 (o9.2.2.2.1-(4:Int)))-(2:Int))))) (nth .u8 ze (Int.toNat (IntKind.wrap .u32 ((Int.tmod (IntKind.wrap .u32 (Int.tdiv (IntKind.wrap .u32 o9.2.2.1) (10000:Int))) (100:Int))*(2:Int)))))) (o9.1+0) (jc (IntKind.wrap .u32 ((48:Int)+(IntKind.wrap .u32 (Int.tdiv (IntKind.wrap .u32 (Int.tdiv (IntKind.wrap .u32 o9.2.2.1) (10000:Int))) (100:Int))))))) 1 (1+((Int.toNat (IntKind.wrap .i64 ((1:Int)+y2.1)))-1))),())) none)) none) (cond (decide (p0<(0:Int))) (cond (zE (0:Int) (IntKind.wrap .i64 ((1:Int)+y2.1)) 24) (some ((slice (List.set (List.set (List.set (List.set (List.set (List.set (List.set o9.2.2.2.2 (o9.1+(Int.toNat (IntKind.wrap .i64 (o9.2.2.2.1-(1:Int))))) (nth .u8 ze (Int.toNat (IntKind.wrap .u32 ((IntKind.wrap .u32 ((Int.tmod (Int.tmod (IntKind.wrap .u32 o9.2.2.1) (10000:Int)) (100:Int))*(2:Int)))+(1:Int)))))) (o9.1+(Int.toNat (IntKind.wrap .i64 (o9.2.2.2.1-(2:Int))))) (nth .u8 ze (Int.toNat (IntKind.wrap .u32 ((Int.tmod (Int.tmod (IntKind.wrap .u32 o9.2.2.1) (10000:Int)) (100:Int))*(2:Int)))))) (o9.1+(Int.toNat (IntKind.wrap .i64 (o9.2.2.2.1-(3:Int))))) (nth .u8 ze (Int.toNat (IntKind.wrap .u32 ((IntKind.wrap .u32 ((IntKind.wrap .u32 (Int.tdiv (Int.tmod (IntKind.wrap .u32 o9.2.2.1) (10000:Int)) (100:Int)))*(2:Int)))+(1:Int)))))) (o9.1+(Int.toNat (IntKind.wrap .i64 (o9.2.2.2.1-(4:Int))))) (nth .u8 ze (Int.toNat (IntKind.wrap .u32 ((IntKind.wrap .u32 (Int.tdiv (Int.tmod (IntKind.wrap .u32 o9.2.2.1) (10000:Int)) (100:Int)))*(2:Int)))))) (o9.1+(Int.toNat (IntKind.wrap .i64 ((IntKind.wrap .i64 (o9.2.2.2.1-(4:Int)))-(1:Int))))) (nth .u8 ze (Int.toNat (IntKind.wrap .u32 ((IntKind.wrap .u32 ((Int.tmod (IntKind.wrap .u32 (Int.tdiv (IntKind.wrap .u32 o9.2.2.1) (10000:Int))) (100:Int))*(2:Int)))+(1:Int)))))) (o9.1+(Int.toNat (IntKind.wrap .i64 ((IntKind.wrap .i64 (o9.2.2.2.1-(4:Int)))-(2:Int))))) (nth .u8 ze (Int.toNat (IntKind.wrap .u32 ((Int.tmod (IntKind.wrap .u32 (Int.tdiv (IntKind.wrap .u32 o9.2.2.1) (10000:Int))) (100:Int))*(2:Int)))))) 0 (45:UInt8)) 0 (0+((Int.toNat (IntKind.wrap .i64 ((1:Int)+y2.1)))-0))),())) none) (cond (zE (1:Int) (IntKind.wrap .i64 ((1:Int)+y2.1)) 24) (some ((slice (List.set (List.set (List.set (List.set (List.set (List.set o9.2.2.2.2 (o9.1+(Int.toNat (IntKind.wrap .i64 (o9.2.2.2.1-(1:Int))))) (nth .u8 ze (Int.toNat (IntKind.wrap .u32 ((IntKind.wrap .u32 ((Int.tmod (Int.tmod (IntKind.wrap .u32 o9.2.2.1) (10000:Int)) (100:Int))*(2:Int)))+(1:Int)))))) (o9.1+(Int.toNat (IntKind.wrap .i64 (o9.2.2.2.1-(2:Int))))) (nth .u8 ze (Int.toNat (IntKind.wrap .u32 ((Int.tmod (Int.tmod (IntKind.wrap .u32 o9.2.2.1) (10000:Int)) (100:Int))*(2:Int)))))) (o9.1+(Int.toNat (IntKind.wrap .i64 (o9.2.2.2.1-(3:Int))))) (nth .u8 ze (Int.toNat (IntKind.wrap .u32 ((IntKind.wrap .u32 ((IntKind.wrap .u32 (Int.tdiv (Int.tmod (IntKind.wrap .u32 o9.2.2.1) (10000:Int)) (100:Int)))*(2:Int)))+(1:Int)))))) (o9.1+(Int.toNat (IntKind.wrap .i64 (o9.2.2.2.1-(4:Int))))) (nth .u8 ze (Int.toNat (IntKind.wrap .u32 ((IntKind.wrap .u32 (Int.tdiv (Int.tmod (IntKind.wrap .u32 o9.2.2.1) (10000:Int)) (100:Int)))*(2:Int)))))) (o9.1+(Int.toNat (IntKind.wrap .i64 ((IntKind.wrap .i64 (o9.2.2.2.1-(4:Int)))-(1:Int))))) (nth .u8 ze (Int.toNat (IntKind.wrap .u32 ((IntKind.wrap .u32 ((Int.tmod (IntKind.wrap .u32 (Int.tdiv (IntKind.wrap .u32 o9.2.2.1) (10000:Int))) (100:Int))*(2:Int)))+(1:Int)))))) (o9.1+(Int.toNat (IntKind.wrap .i64 ((IntKind.wrap .i64 (o9.2.2.2.1-(4:Int)))-(2:Int))))) (nth .u8 ze (Int.toNat (IntKind.wrap .u32 ((Int.tmod (IntKind.wrap .u32 (Int.tdiv (IntKind.wrap .u32 o9.2.2.1) (10000:Int))) (100:Int))*(2:Int)))))) 1 (1+((Int.toNat (IntKind.wrap .i64 ((1:Int)+y2.1)))-1))),())) none))) none) none) none) none) (cond (decide ((0:Int)<(IntKind.wrap .i64 (o9.2.2.2.1-(4:Int))))) (cond (inb (0:Int) o9.2.1) (cond (decide (p0<(0:Int))) (cond (zE (0:Int) (IntKind.wrap .i64 ((1:Int)+y2.1)) 24) (some ((slice (List.set (List.set (List.set (List.set (List.set (List.set o9.2.2.2.2 (o9.1+(Int.toNat (IntKind.wrap .i64 (o9.2.2.2.1-(1:Int))))) (nth .u8 ze (Int.toNat (IntKind.wrap .u32 ((IntKind.wrap .u32 ((Int.tmod (Int.tmod (IntKind.wrap .u32 o9.2.2.1) (10000:Int)) (100:Int))*(2:Int)))+(1:Int)))))) (o9.1+(Int.toNat (IntKind.wrap .i64 (o9.2.2.2.1-(2:Int))))) (nth .u8 ze (Int.toNat (IntKind.wrap .u32 ((Int.tmod (Int.tmod (IntKind.wrap .u32 o9.2.2.1) (10000:Int)) (100:Int))*(2:Int)))))) (o9.1+(Int.toNat (IntKind.wrap .i64 (o9.2.2.2.1-(3:Int))))) (nth .u8 ze (Int.toNat (IntKind.wrap .u32 ((IntKind.wrap .u32 ((IntKind.wrap .u32 (Int.tdiv (Int.tmod (IntKind.wrap .u32 o9.2.2.1) (10000:Int)) (100:Int)))*(2:Int)))+(1:Int)))))) (o9.1+(Int.toNat (IntKind.wrap .i64 (o9.2.2.2.1-(4:Int))))) (nth .u8 ze (Int.toNat (IntKind.wrap .u32 ((IntKind.wrap .u32 (Int.tdiv (Int.tmod (IntKind.wrap .u32 o9.2.2.1) (10000:Int)) (100:Int)))*(2:Int)))))) (o9.1+0) (jc (IntKind.wrap .u32 ((48:Int)+(IntKind.wrap .u32 (Int.tdiv (IntKind.wrap .u32 o9.2.2.1) (10000:Int))))))) 0 (45:UInt8)) 0 (0+((Int.toNat (IntKind.wrap .i64 ((1:Int)+y2.1)))-0))),())) none) (cond (zE (1:Int) (IntKind.wrap .i64 ((1:Int)+y2.1)) 24) (some ((slice (List.set (List.set (List.set (List.set (List.set o9.2.2.2.2 (o9.1+(Int.toNat (IntKind.wrap .i64 (o9.2.2.2.1-(1:Int))))) (nth .u8 ze (Int.toNat (IntKind.wrap .u32 ((IntKind.wrap .u32 ((Int.tmod (Int.tmod (IntKind.wrap .u32 o9.2.2.1) (10000:Int)) (100:Int))*(2:Int)))+(1:Int)))))) (o9.1+(Int.toNat (IntKind.wrap .i64 (o9.2.2.2.1-(2:Int))))) (nth .u8 ze (Int.toNat (IntKind.wrap .u32 ((Int.tmod (Int.tmod (IntKind.wrap .u32 o9.2.2.1) (10000:Int)) (100:Int))*(2:Int)))))) (o9.1+(Int.toNat (IntKind.wrap .i64 (o9.2.2.2.1-(3:Int))))) (nth .u8 ze (Int.toNat (IntKind.wrap .u32 ((IntKind.wrap .u32 ((IntKind.wrap .u32 (Int.tdiv (Int.tmod (IntKind.wrap .u32 o9.2.2.1) (10000:Int)) (100:Int)))*(2:Int)))+(1:Int)))))) (o9.1+(Int.toNat (IntKind.wrap .i64 (o9.2.2.2.1-(4:Int))))) (nth .u8 ze (Int.toNat (IntKind.wrap .u32 ((IntKind.wrap .u32 (Int.tdiv (Int.tmod (IntKind.wrap .u32 o9.2.2.1) (10000:Int)) (100:Int)))*(2:Int)))))) (o9.1+0) (jc (IntKind.wrap .u32 ((48:Int)+(IntKind.wrap .u32 (Int.tdiv (IntKind.wrap .u32 o9.2.2.1) (10000:Int))))))) 1 (1+((Int.toNat (IntKind.wrap .i64 ((1:Int)+y2.1)))-1))),())) none)) none) (cond (decide (p0<(0:Int))) (cond (zE (0:Int) (IntKind.wrap .i64 ((1:Int)+y2.1)) 24) (some ((slice (List.set (List.set (List.set (List.set (List.set o9.2.2.2.2 (o9.1+(Int.toNat (IntKind.wrap .i64 (o9.2.2.2.1-(1:Int))))) (nth .u8 ze (Int.toNat (IntKind.wrap .u32 ((IntKind.wrap .u32 ((Int.tmod (Int.tmod (IntKind.wrap .u32 o9.2.2.1) (10000:Int)) (100:Int))*(2:Int)))+(1:Int)))))) (o9.1+(Int.toNat (IntKind.wrap .i64 (o9.2.2.2.1-(2:Int))))) (nth .u8 ze (Int.toNat (IntKind.wrap .u32 ((Int.tmod (Int.tmod (IntKind.wrap .u32 o9.2.2.1) (10000:Int)) (100:Int))*(2:Int)))))) (o9.1+(Int.toNat (IntKind.wrap .i64 (o9.2.2.2.1-(3:Int))))) (nth .u8 ze (Int.toNat (IntKind.wrap .u32 ((IntKind.wrap .u32 ((IntKind.wrap .u32 (Int.tdiv (Int.tmod (IntKind.wrap .u32 o9.2.2.1) (10000:Int)) (100:Int)))*(2:Int)))+(1:Int)))))) (o9.1+(Int.toNat (IntKind.wrap .i64 (o9.2.2.2.1-(4:Int))))) (nth .u8 ze (Int.toNat (IntKind.wrap .u32 ((IntKind.wrap .u32 (Int.tdiv (Int.tmod (IntKind.wrap .u32 o9.2.2.1) (10000:Int)) (100:Int)))*(2:Int)))))) 0 (45:UInt8)) 0 (0+((Int.toNat (IntKind.wrap .i64 ((1:Int)+y2.1)))-0))),())) none) (cond (zE (1:Int) (IntKind.wrap .i64 ((1:Int)+y2.1)) 24) (some ((slice (List.set (List.set (List.set (List.set o9.2.2.2.2 (o9.1+(Int.toNat (IntKind.wrap .i64 (o9.2.2.2.1-(1:Int))))) (nth .u8 ze (Int.toNat (IntKind.wrap .u32 ((IntKind.wrap .u32 ((Int.tmod (Int.tmod (IntKind.wrap .u32 o9.2.2.1) (10000:Int)) (100:Int))*(2:Int)))+(1:Int)))))) (o9.1+(Int.toNat (IntKind.wrap .i64 (o9.2.2.2.1-(2:Int))))) (nth .u8 ze (Int.toNat (IntKind.wrap .u32 ((Int.tmod (Int.tmod (IntKind.wrap .u32 o9.2.2.1) (10000:Int)) (100:Int))*(2:Int)))))) (o9.1+(Int.toNat (IntKind.wrap .i64 (o9.2.2.2.1-(3:Int))))) (nth .u8 ze (Int.toNat (IntKind.wrap .u32 ((IntKind.wrap .u32 ((IntKind.wrap .u32 (Int.tdiv (Int.tmod (IntKind.wrap .u32 o9.2.2.1) (10000:Int)) (100:Int)))*(2:Int)))+(1:Int)))))) (o9.1+(Int.toNat (IntKind.wrap .i64 (o9.2.2.2.1-(4:Int))))) (nth .u8 ze (Int.toNat (IntKind.wrap .u32 ((IntKind.wrap .u32 (Int.tdiv (Int.tmod (IntKind.wrap .u32 o9.2.2.1) (10000:Int)) (100:Int)))*(2:Int)))))) 1 (1+((Int.toNat (IntKind.wrap .i64 ((1:Int)+y2.1)))-1))),())) none)))) none) none) none) none) none) none) none) none) (cond (decide ((2:Int)<=o9.2.2.2.1)) (cond (inb (IntKind.wrap .u32 ((IntKind.wrap .u32 ((Int.tmod (IntKind.wrap .u32 o9.2.2.1) (100:Int))*(2:Int)))+(1:Int))) 200) (cond (inb (IntKind.wrap .u32 ((Int.tmod (IntKind.wrap .u32 o9.2.2.1) (100:Int))*(2:Int))) 200) (cond (inb (IntKind.wrap .i64 (o9.2.2.2.1-(1:Int))) o9.2.1) (cond (inb (IntKind.wrap .i64 (o9.2.2.2.1-(2:Int))) o9.2.1) (cond (decide ((0:Int)<(IntKind.wrap .i64 (o9.2.2.2.1-(2:Int))))) (cond (inb (0:Int) o9.2.1) (cond (decide (p0<(0:Int))) (cond (zE (0:Int) (IntKind.wrap .i64 ((1:Int)+y2.1)) 24) (some ((slice (List.set (List.set (List.set (List.set o9.2.2.2.2 (o9.1+(Int.toNat (IntKind.wrap .i64 (o9.2.2.2.1-(1:Int))))) (nth .u8 ze (Int.toNat (IntKind.wrap .u32 ((IntKind.wrap .u32 ((Int.tmod (IntKind.wrap .u32 o9.2.2.1) (100:Int))*(2:Int)))+(1:Int)))))) (o9.1+(Int.toNat (IntKind.wrap .i64 (o9.2.2.2.1-(2:Int))))) (nth .u8 ze (Int.toNat (IntKind.wrap .u32 ((Int.tmod (IntKind.wrap .u32 o9.2.2.1) (100:Int))*(2:Int)))))) (o9.1+0) (jc (IntKind.wrap .u32 ((48:Int)+(IntKind.wrap .u32 (Int.tdiv (IntKind.wrap .u32 o9.2.2.1) (100:Int))))))) 0 (45:UInt8)) 0 (0+((Int.toNat (IntKind.wrap .i64 ((1:Int)+y2.1)))-0))),())) none) (cond (zE (1:Int) (IntKind.wrap .i64 ((1:Int)+y2.1)) 24) (some ((slice (List.set (List.set (List.set o9.2.2.2.2 (o9.1+(Int.toNat (IntKind.wrap .i64 (o9.2.2.2.1-(1:Int))))) (nth .u8 ze (Int.toNat (IntKind.wrap .u32 ((IntKind.wrap .u32 ((Int.tmod (IntKind.wrap .u32 o9.2.2.1) (100:Int))*(2:Int)))+(1:Int)))))) (o9.1+(Int.toNat (IntKind.wrap .i64 (o9.2.2.2.1-(2:Int))))) (nth .u8 ze (Int.toNat (IntKind.wrap .u32 ((Int.tmod (IntKind.wrap .u32 o9.2.2.1) (100:Int))*(2:Int)))))) (o9.1+0) (jc (IntKind.wrap .u32 ((48:Int)+(IntKind.wrap .u32 (Int.tdiv (IntKind.wrap .u32 o9.2.2.1) (100:Int))))))) 1 (1+((Int.toNat (IntKind.wrap .i64 ((1:Int)+y2.1)))-1))),())) none)) none) (cond (decide (p0<(0:Int))) (cond (zE (0:Int) (IntKind.wrap .i64 ((1:Int)+y2.1)) 24) (some ((slice (List.set (List.set (List.set o9.2.2.2.2 (o9.1+(Int.toNat (IntKind.wrap .i64 (o9.2.2.2.1-(1:Int))))) (nth .u8 ze (Int.toNat (IntKind.wrap .u32 ((IntKind.wrap .u32 ((Int.tmod (IntKind.wrap .u32 o9.2.2.1) (100:Int))*(2:Int)))+(1:Int)))))) (o9.1+(Int.toNat (IntKind.wrap .i64 (o9.2.2.2.1-(2:Int))))) (nth .u8 ze (Int.toNat (IntKind.wrap .u32 ((Int.tmod (IntKind.wrap .u32 o9.2.2.1) (100:Int))*(2:Int)))))) 0 (45:UInt8)) 0 (0+((Int.toNat (IntKind.wrap .i64 ((1:Int)+y2.1)))-0))),())) none) (cond (zE (1:Int) (IntKind.wrap .i64 ((1:Int)+y2.1)) 24) (some ((slice (List.set (List.set o9.2.2.2.2 (o9.1+(Int.toNat (IntKind.wrap .i64 (o9.2.2.2.1-(1:Int))))) (nth .u8 ze (Int.toNat (IntKind.wrap .u32 ((IntKind.wrap .u32 ((Int.tmod (IntKind.wrap .u32 o9.2.2.1) (100:Int))*(2:Int)))+(1:Int)))))) (o9.1+(Int.toNat (IntKind.wrap .i64 (o9.2.2.2.1-(2:Int))))) (nth .u8 ze (Int.toNat (IntKind.wrap .u32 ((Int.tmod (IntKind.wrap .u32 o9.2.2.1) (100:Int))*(2:Int)))))) 1 (1+((Int.toNat (IntKind.wrap .i64 ((1:Int)+y2.1)))-1))),())) none))) none) none) none) none) (cond (decide ((0:Int)<o9.2.2.2.1)) (cond (inb (0:Int) o9.2.1) (cond (decide (p0<(0:Int))) (cond (zE (0:Int) (IntKind.wrap .i64 ((1:Int)+y2.1)) 24) (some ((slice (List.set (List.set o9.2.2.2.2 (o9.1+0) (jc (IntKind.wrap .u32 ((48:Int)+(IntKind.wrap .u32 o9.2.2.1))))) 0 (45:UInt8)) 0 (0+((Int.toNat (IntKind.wrap .i64 ((1:Int)+y2.1)))-0))),())) none) (cond (zE (1:Int) (IntKind.wrap .i64 ((1:Int)+y2.1)) 24) (some ((slice (List.set o9.2.2.2.2 (o9.1+0) (jc (IntKind.wrap .u32 ((48:Int)+(IntKind.wrap .u32 o9.2.2.1))))) 1 (1+((Int.toNat (IntKind.wrap .i64 ((1:Int)+y2.1)))-1))),())) none)) none) (cond (decide (p0<(0:Int))) (cond (zE (0:Int) (IntKind.wrap .i64 ((1:Int)+y2.1)) 24) (some ((slice (List.set o9.2.2.2.2 0 (45:UInt8)) 0 (0+((Int.toNat (IntKind.wrap .i64 ((1:Int)+y2.1)))-0))),())) none) (cond (zE (1:Int) (IntKind.wrap .i64 ((1:Int)+y2.1)) 24) (some ((slice o9.2.2.2.2 1 (1+((Int.toNat (IntKind.wrap .i64 ((1:Int)+y2.1)))-1))),())) none)))))) none)) (Option.bind (zf N (IntKind.wrap .u64 p0)) fun y10=>(cond (zE (1:Int) (IntKind.wrap .i64 ((1:Int)+y10.1)) 24) (Option.bind (zd N N 1 ((Int.toNat (IntKind.wrap .i64 ((1:Int)+y10.1)))-1) (IntKind.wrap .u64 p0) ((((Int.toNat (IntKind.wrap .i64 ((1:Int)+y10.1)))-1):Nat):Int) zoR) fun o11=>(cond (decide ((4:Int)<=o11.2.2.2.1)) (cond (inb (IntKind.wrap .u32 ((IntKind.wrap .u32 ((Int.tmod (Int.tmod (IntKind.wrap .u32 o11.2.2.1) (10000:Int)) (100:Int))*(2:Int)))+(1:Int))) 200) (cond (inb (IntKind.wrap .u32 ((Int.tmod (Int.tmod (IntKind.wrap .u32 o11.2.2.1) (10000:Int)) (100:Int))*(2:Int))) 200) (cond (inb (IntKind.wrap .i64 (o11.2.2.2.1-(1:Int))) o11.2.1) (cond (inb (IntKind.wrap .i64 (o11.2.2.2.1-(2:Int))) o11.2.1) (cond (inb (IntKind.wrap .u32 ((IntKind.wrap .u32 ((IntKind.wrap .u32 (Int.tdiv (Int.tmod (IntKind.wrap .u32 o11.2.2.1) (10000:Int)) (100:Int)))*(2:Int)))+(1:Int))) 200) (cond (inb (IntKind.wrap .u32 ((IntKind.wrap .u32 (Int.tdiv (Int.tmod (IntKind.wrap .u32 o11.2.2.1) (10000:Int)) (100:Int)))*(2:Int))) 200) (cond (inb (IntKind.wrap .i64 (o11.2.2.2.1-(3:Int))) o11.2.1) (cond (inb (IntKind.wrap .i64 (o11.2.2.2.1-(4:Int))) o11.2.1) (cond (decide ((2:Int)<=(IntKind.wrap .i64 (o11.2.2.2.1-(4:Int))))) (cond (inb (IntKind.wrap .u32 ((IntKind.wrap .u32 ((Int.tmod (IntKind.wrap .u32 (Int.tdiv (IntKind.wrap .u32 o11.2.2.1) (10000:Int))) (100:Int))*(2:Int)))+(1:Int))) 200) (cond (inb (IntKind.wrap .u32 ((Int.tmod (IntKind.wrap .u32 (Int.tdiv (IntKind.wrap .u32 o11.2.2.1) (10000:Int))) (100:Int))*(2:Int))) 200) (cond (inb (IntKind.wrap .i64 ((IntKind.wrap .i64 (o11.2.2.2.1-(4:Int)))-(1:Int))) o11.2.1) (cond (inb (IntKind.wrap .i64 ((IntKind.wrap .i64 (o11.2.2.2.1-(4:Int)))-(2:Int))) o11.2.1) (cond (decide ((0:Int)<(IntKind.wrap .i64 ((IntKind.wrap .i64 (o11.2.2.2.1-(4:Int)))-(2:Int))))) (cond (inb (0:Int) o11.2.1) (cond (decide (p0<(0:Int))) (cond (zE (0:Int) (IntKind.wrap .i64 ((1:Int)+y10.1)) 24) (some ((slice (List.set (List.set (List.set (List.set (List.set (List.set (List.set (List.set o11.2.2.2.2 (o11.1+(Int.toNat (IntKind.wrap .i64 (o11.2.2.2.1-(1:Int))))) (nth .u8 ze (Int.toNat (IntKind.wrap .u32 ((IntKind.wrap .u32 ((Int.tmod (Int.tmod (IntKind.wrap .u32 o11.2.2.1) (10000:Int)) (100:Int))*(2:Int)))+(1:Int)))))) (o11.1+(Int.toNat (IntKind.wrap .i64 (o11.2.2.2.1-(2:Int))))) (nth .u8 ze (Int.toNat (IntKind.wrap .u32 ((Int.tmod (Int.tmod (IntKind.wrap .u32 o11.2.2.1) (10000:Int)) (100:Int))*(2:Int)))))) (o11.1+(Int.toNat (IntKind.wrap .i64 (o11.2.2.2.1-(3:Int))))) (nth .u8 ze (Int.toNat (IntKind.wrap .u32 ((IntKind.wrap .u32 ((IntKind.wrap .u32 (Int.tdiv (Int.tmod (IntKind.wrap .u32 o11.2.2.1) (10000:Int)) (100:Int)))*(2:Int)))+(1:Int)))))) (o11.1+(Int.toNat (IntKind.wrap .i64 (o11.2.2.2.1-(4:Int))))) (nth .u8 ze (Int.toNat (IntKind.wrap .u32 ((IntKind.wrap .u32 (Int.tdiv (Int.tmod (IntKind.wrap .u32 o11.2.2.1) (10000:Int)) (100:Int)))*(2:Int)))))) (o11.1+(Int.toNat (IntKind.wrap .i64 ((IntKind.wrap .i64 (o11.2.2.2.1-(4:Int)))-(1:Int))))) (nth .u8 ze (Int.toNat (IntKind.wrap .u32 ((IntKind.wrap .u32 ((Int.tmod (IntKind.wrap .u32 (Int.tdiv (IntKind.wrap .u32 o11.2.2.1) (10000:Int))) (100:Int))*(2:Int)))+(1:Int)))))) (o11.1+(Int.toNat (IntKind.wrap .i64 ((IntKind.wrap .i64 (o11.2.2.2.1-(4:Int)))-(2:Int))))) (nth .u8 ze (Int.toNat (IntKind.wrap .u32 ((Int.tmod (IntKind.wrap .u32 (Int.tdiv (IntKind.wrap .u32 o11.2.2.1) (10000:Int))) (100:Int))*(2:Int)))))) (o11.1+0) (jc (IntKind.wrap .u32 ((48:Int)+(IntKind.wrap .u32 (Int.tdiv (IntKind.wrap .u32 (Int.tdiv (IntKind.wrap .u32 o11.2.2.1) (10000:Int))) (100:Int))))))) 0 (45:UInt8)) 0 (0+((Int.toNat (IntKind.wrap .i64 ((1:Int)+y10.1)))-0))),())) none) (cond (zE (1:Int) (IntKind.wrap .i64 ((1:Int)+y10.1)) 24) (some ((slice (List.set (List.set (List.set (List.set (List.set (List.set (List.set o11.2.2.2.2 (o11.1+(Int.toNat (IntKind.wrap .i64 (o11.2.2.2.1-(1:Int))))) (nth .u8 ze (Int.toNat (IntKind.wrap .u32 ((IntKind.wrap .u32 ((Int.tmod (Int.tmod (IntKind.wrap .u32 o11.2.2.1) (10000:Int)) (100:Int))*(2:Int)))+(1:Int)))))) (o11.1+(Int.toNat (IntKind.wrap .i64 (o11.2.2.2.1-(2:Int))))) (nth .u8 ze (Int.toNat (IntKind.wrap .u32 ((Int.tmod (Int.tmod (IntKind.wrap .u32 o11.2.2.1) (10000:Int)) (100:Int))*(2:Int)))))) (o11.1+(Int.toNat (IntKind.wrap .i64 (o11.2.2.2.1-(3:Int))))) (nth .u8 ze (Int.toNat (IntKind.wrap .u32 ((IntKind.wrap .u32 ((IntKind.wrap .u32 (Int.tdiv (Int.tmod (IntKind.wrap .u32 o11.2.2.1) (10000:Int)) (100:Int)))*(2:Int)))+(1:Int)))))) (o11.1+(Int.toNat (IntKind.wrap .i64 (o11.2.2.2.1-(4:Int))))) (nth .u8 ze (Int.toNat (IntKind.wrap .u32 ((IntKind.wrap .u32 (Int.tdiv (Int.tmod (IntKind.wrap .u32 o11.2.2.1) (10000:Int)) (100:Int)))*(2:Int)))))) (o11.1+(Int.toNat (IntKind.wrap .i64 ((IntKind.wrap .i64 (o11.2.2.2.1-(4:Int)))-(1:Int))))) (nth .u8 ze (Int.toNat (IntKind.wrap .u32 ((IntKind.wrap .u32 ((Int.tmod (IntKind.wrap .u32 (Int.tdiv (IntKind.wrap .u32 o11.2.2.1) (10000:Int))) (100:Int))*(2:Int)))+(1:Int)))))) (o11.1+(Int.toNat (IntKind.wrap .i64 ((IntKind.wrap .i64 (o11.2.2.2.1-(4:Int)))-(2:Int))))) (nth .u8 ze (Int.toNat (IntKind.wrap .u32 ((Int.tmod (IntKind.wrap .u32 (Int.tdiv (IntKind.wrap .u32 o11.2.2.1) (10000:Int))) (100:Int))*(2:Int)))))) (o11.1+0) (jc (IntKind.wrap .u32 ((48:Int)+(IntKind.wrap .u32 (Int.tdiv (IntKind.wrap .u32 (Int.tdiv (IntKind.wrap .u32 o11.2.2.1) (10000:Int))) (100:Int))))))) 1 (1+((Int.toNat (IntKind.wrap .i64 ((1:Int)+y10.1)))-1))),())) none)) none) (cond (decide (p0<(0:Int))) (cond (zE (0:Int) (IntKind.wrap .i64 ((1:Int)+y10.1)) 24) (some ((slice (List.set (List.set (List.set (List.set (List.set (List.set (List.set o11.2.2.2.2 (o11.1+(Int.toNat (IntKind.wrap .i64 (o11.2.2.2.1-(1:Int))))) (nth .u8 ze (Int.toNat (IntKind.wrap .u32 ((IntKind.wrap .u32 ((Int.tmod (Int.tmod (IntKind.wrap .u32 o11.2.2.1) (10000:Int)) (100:Int))*(2:Int)))+(1:Int)))))) (o11.1+(Int.toNat (IntKind.wrap .i64 (o11.2.2.2.1-(2:Int))))) (nth .u8 ze (Int.toNat (IntKind.wrap .u32 ((Int.tmod (Int.tmod (IntKind.wrap .u32 o11.2.2.1) (10000:Int)) (100:Int))*(2:Int)))))) (o11.1+(Int.toNat (IntKind.wrap .i64 (o11.2.2.2.1-(3:Int))))) (nth .u8 ze (Int.toNat (IntKind.wrap .u32 ((IntKind.wrap .u32 ((IntKind.wrap .u32 (Int.tdiv (Int.tmod (IntKind.wrap .u32 o11.2.2.1) (10000:Int)) (100:Int)))*(2:Int)))+(1:Int)))))) (o11.1+(Int.toNat (IntKind.wrap .i64 (o11.2.2.2.1-(4:Int))))) (nth .u8 ze (Int.toNat (IntKind.wrap .u32 ((IntKind.wrap .u32 (Int.tdiv (Int.tmod (IntKind.wrap .u32 o11.2.2.1) (10000:Int)) (100:Int)))*(2:Int)))))) (o11.1+(Int.toNat (IntKind.wrap .i64 ((IntKind.wrap .i64 (o11.2.2.2.1-(4:Int)))-(1:Int))))) (nth .u8 ze (Int.toNat (IntKind.wrap .u32 ((IntKind.wrap .u32 ((Int.tmod (IntKind.wrap .u32 (Int.tdiv (IntKind.wrap .u32 o11.2.2.1) (10000:Int))) (100:Int))*(2:Int)))+(1:Int)))))) (o11.1+(Int.toNat (IntKind.wrap .i64 ((IntKind.wrap .i64 (o11.2.2.2.1-(4:Int)))-(2:Int))))) (nth .u8 ze (Int.toNat (IntKind.wrap .u32 ((Int.tmod (IntKind.wrap .u32 (Int.tdiv (IntKind.wrap .u32 o11.2.2.1) (10000:Int))) (100:Int))*(2:Int)))))) 0 (45:UInt8)) 0 (0+((Int.toNat (IntKind.wrap .i64 ((1:Int)+y10.1)))-0))),())) none) (cond (zE (1:Int) (IntKind.wrap .i64 ((1:Int)+y10.1)) 24) (some ((slice (List.set (List.set (List.set (List.set (List.set (List.set o11.2.2.2.2 (o11.1+(Int.toNat (IntKind.wrap .i64 (o11.2.2.2.1-(1:Int))))) (nth .u8 ze (Int.toNat (IntKind.wrap .u32 ((IntKind.wrap .u32 ((Int.tmod (Int.tmod (IntKind.wrap .u32 o11.2.2.1) (10000:Int)) (100:Int))*(2:Int)))+(1:Int)))))) (o11.1+(Int.toNat (IntKind.wrap .i64 (o11.2.2.2.1-(2:Int))))) (nth .u8 ze (Int.toNat (IntKind.wrap .u32 ((Int.tmod (Int.tmod (IntKind.wrap .u32 o11.2.2.1) (10000:Int)) (100:Int))*(2:Int)))))) (o11.1+(Int.toNat (IntKind.wrap .i64 (o11.2.2.2.1-(3:Int))))) (nth .u8 ze (Int.toNat (IntKind.wrap .u32 ((IntKind.wrap .u32 ((IntKind.wrap .u32 (Int.tdiv (Int.tmod (IntKind.wrap .u32 o11.2.2.1) (10000:Int)) (100:Int)))*(2:Int)))+(1:Int)))))) (o11.1+(Int.toNat (IntKind.wrap .i64 (o11.2.2.2.1-(4:Int))))) (nth .u8 ze (Int.toNat (IntKind.wrap .u32 ((IntKind.wrap .u32 (Int.tdiv (Int.tmod (IntKind.wrap .u32 o11.2.2.1) (10000:Int)) (100:Int)))*(2:Int)))))) (o11.1+(Int.toNat (IntKind.wrap .i64 ((IntKind.wrap .i64 (o11.2.2.2.1-(4:Int)))-(1:Int))))) (nth .u8 ze (Int.toNat (IntKind.wrap .u32 ((IntKind.wrap .u32 ((Int.tmod (IntKind.wrap .u32 (Int.tdiv (IntKind.wrap .u32 o11.2.2.1) (10000:Int))) (100:Int))*(2:Int)))+(1:Int)))))) (o11.1+(Int.toNat (IntKind.wrap .i64 ((IntKind.wrap .i64 (o11.2.2.2.1-(4:Int)))-(2:Int))))) (nth .u8 ze (Int.toNat (IntKind.wrap .u32 ((Int.tmod (IntKind.wrap .u32 (Int.tdiv (IntKind.wrap .u32 o11.2.2.1) (10000:Int))) (100:Int))*(2:Int)))))) 1 (1+((Int.toNat (IntKind.wrap .i64 ((1:Int)+y10.1)))-1))),())) none))) none) none) none) none) (cond (decide ((0:Int)<(IntKind.wrap .i64 (o11.2.2.2.1-(4:Int))))) (cond (inb (0:Int) o11.2.1) (cond (decide (p0<(0:Int))) (cond (zE (0:Int) (IntKind.wrap .i64 ((1:Int)+y10.1)) 24) (some ((slice (List.set (List.set (List.set (List.set (List.set (List.set o11.2.2.2.2 (o11.1+(Int.toNat (IntKind.wrap .i64 (o11.2.2.2.1-(1:Int))))) (nth .u8 ze (Int.toNat (IntKind.wrap .u32 ((IntKind.wrap .u32 ((Int.tmod (Int.tmod (IntKind.wrap .u32 o11.2.2.1) (10000:Int)) (100:Int))*(2:Int)))+(1:Int)))))) (o11.1+(Int.toNat (IntKind.wrap .i64 (o11.2.2.2.1-(2:Int))))) (nth .u8 ze (Int.toNat (IntKind.wrap .u32 ((Int.tmod (Int.tmod (IntKind.wrap .u32 o11.2.2.1) (10000:Int)) (100:Int))*(2:Int)))))) (o11.1+(Int.toNat (IntKind.wrap .i64 (o11.2.2.2.1-(3:Int))))) (nth .u8 ze (Int.toNat (IntKind.wrap .u32 ((IntKind.wrap .u32 ((IntKind.wrap .u32 (Int.tdiv (Int.tmod (IntKind.wrap .u32 o11.2.2.1) (10000:Int)) (100:Int)))*(2:Int)))+(1:Int)))))) (o11.1+(Int.toNat (IntKind.wrap .i64 (o11.2.2.2.1-(4:Int))))) (nth .u8 ze (Int.toNat (IntKind.wrap .u32 ((IntKind.wrap .u32 (Int.tdiv (Int.tmod (IntKind.wrap .u32 o11.2.2.1) (10000:Int)) (100:Int)))*(2:Int)))))) (o11.1+0) (jc (IntKind.wrap .u32 ((48:Int)+(IntKind.wrap .u32 (Int.tdiv (IntKind.wrap .u32 o11.2.2.1) (10000:Int))))))) 0 (45:UInt8)) 0 (0+((Int.toNat (IntKind.wrap .i64 ((1:Int)+y10.1)))-0))),())) none) (cond (zE (1:Int) (IntKind.wrap .i64 ((1:Int)+y10.1)) 24) (some ((slice (List.set (List.set (List.set (List.set (List.set o11.2.2.2.2 (o11.1+(Int.toNat (IntKind.wrap .i64 (o11.2.2.2.1-(1:Int))))) (nth .u8 ze (Int.toNat (IntKind.wrap .u32 ((IntKind.wrap .u32 ((Int.tmod (Int.tmod (IntKind.wrap .u32 o11.2.2.1) (10000:Int)) (100:Int))*(2:Int)))+(1:Int)))))) (o11.1+(Int.toNat (IntKind.wrap .i64 (o11.2.2.2.1-(2:Int))))) (nth .u8 ze (Int.toNat (IntKind.wrap .u32 ((Int.tmod (Int.tmod (IntKind.wrap .u32 o11.2.2.1) (10000:Int)) (100:Int))*(2:Int)))))) (o11.1+(Int.toNat (IntKind.wrap .i64 (o11.2.2.2.1-(3:Int))))) (nth .u8 ze (Int.toNat (IntKind.wrap .u32 ((IntKind.wrap .u32 ((IntKind.wrap .u32 (Int.tdiv (Int.tmod (IntKind.wrap .u32 o11.2.2.1) (10000:Int)) (100:Int)))*(2:Int)))+(1:Int)))))) (o11.1+(Int.toNat (IntKind.wrap .i64 (o11.2.2.2.1-(4:Int))))) (nth .u8 ze (Int.toNat (IntKind.wrap .u32 ((IntKind.wrap .u32 (Int.tdiv (Int.tmod (IntKind.wrap .u32 o11.2.2.1) (10000:Int)) (100:Int)))*(2:Int)))))) (o11.1+0) (jc (IntKind.wrap .u32 ((48:Int)+(IntKind.wrap .u32 (Int.tdiv (IntKind.wrap .u32 o11.2.2.1) (10000:Int))))))) 1 (1+((Int.toNat (IntKind.wrap .i64 ((1:Int)+y10.1)))-1))),())) none)) none) (cond (decide (p0<(0:Int))) (cond (zE (0:Int) (IntKind.wrap .i64 ((1:Int)+y10.1)) 24) (some ((slice (List.set (List.set (List.set (List.set (List.set o11.2.2.2.2 (o11.1+(Int.toNat (IntKind.wrap .i64 (o11.2.2.2.1-(1:Int))))) (nth .u8 ze (Int.toNat (IntKind.wrap .u32 ((IntKind.wrap .u32 ((Int.tmod (Int.tmod (IntKind.wrap .u32 o11.2.2.1) (10000:Int)) (100:Int))*(2:Int)))+(1:Int)))))) (o11.1+(Int.toNat (IntKind.wrap .i64 (o11.2.2.2.1-(2:Int))))) (nth .u8 ze (Int.toNat (IntKind.wrap .u32 ((Int.tmod (Int.tmod (IntKind.wrap .u32 o11.2.2.1) (10000:Int)) (100:Int))*(2:Int)))))) (o11.1+(Int.toNat (IntKind.wrap .i64 (o11.2.2.2.1-(3:Int))))) (nth .u8 ze (Int.toNat (IntKind.wrap .u32 ((IntKind.wrap .u32 ((IntKind.wrap .u32 (Int.tdiv (Int.tmod (IntKind.wrap .u32 o11.2.2.1) (10000:Int)) (100:Int)))*(2:Int)))+(1:Int)))))) (o11.1+(Int.toNat (IntKind.wrap .i64 (o11.2.2.2.1-(4:Int))))) (nth .u8 ze (Int.toNat (IntKind.wrap .u32 ((IntKind.wrap .u32 (Int.tdiv (Int.tmod (IntKind.wrap .u32 o11.2.2.1) (10000:Int)) (100:Int)))*(2:Int)))))) 0 (45:UInt8)) 0 (0+((Int.toNat (IntKind.wrap .i64 ((1:Int)+y10.1)))-0))),())) none) (cond (zE (1:Int) (IntKind.wrap .i64 ((1:Int)+y10.1)) 24) (some ((slice (List.set (List.set (List.set (List.set o11.2.2.2.2 (o11.1+(Int.toNat (IntKind.wrap .i64 (o11.2.2.2.1-(1:Int))))) (nth .u8 ze (Int.toNat (IntKind.wrap .u32 ((IntKind.wrap .u32 ((Int.tmod (Int.tmod (IntKind.wrap .u32 o11.2.2.1) (10000:Int)) (100:Int))*(2:Int)))+(1:Int)))))) (o11.1+(Int.toNat (IntKind.wrap .i64 (o11.2.2.2.1-(2:Int))))) (nth .u8 ze (Int.toNat (IntKind.wrap .u32 ((Int.tmod (Int.tmod (IntKind.wrap .u32 o11.2.2.1) (10000:Int)) (100:Int))*(2:Int)))))) (o11.1+(Int.toNat (IntKind.wrap .i64 (o11.2.2.2.1-(3:Int))))) (nth .u8 ze (Int.toNat (IntKind.wrap .u32 ((IntKind.wrap .u32 ((IntKind.wrap .u32 (Int.tdiv (Int.tmod (IntKind.wrap .u32 o11.2.2.1) (10000:Int)) (100:Int)))*(2:Int)))+(1:Int)))))) (o11.1+(Int.toNat (IntKind.wrap .i64 (o11.2.2.2.1-(4:Int))))) (nth .u8 ze (Int.toNat (IntKind.wrap .u32 ((IntKind.wrap .u32 (Int.tdiv (Int.tmod (IntKind.wrap .u32 o11.2.2.1) (10000:Int)) (100:Int)))*(2:Int)))))) 1 (1+((Int.toNat (IntKind.wrap .i64 ((1:Int)+y10.1)))-1))),())) none)))) none) none) none) none) none) none) none) none) (cond (decide ((2:Int)<=o11.2.2.2.1)) (cond (inb (IntKind.wrap .u32 ((IntKind.wrap .u32 ((Int.tmod (IntKind.wrap .u32 o11.2.2.1) (100:Int))*(2:Int)))+(1:Int))) 200) (cond (inb (IntKind.wrap .u32 ((Int.tmod (IntKind.wrap .u32 o11.2.2.1) (100:Int))*(2:Int))) 200) (cond (inb (IntKind.wrap .i64 (o11.2.2.2.1-(1:Int))) o11.2.1) (cond (inb (IntKind.wrap .i64 (o11.2.2.2.1-(2:Int))) o11.2.1) (cond (decide ((0:Int)<(IntKind.wrap .i64 (o11.2.2.2.1-(2:Int))))) (cond (inb (0:Int) o11.2.1) (cond (decide (p0<(0:Int))) (cond (zE (0:Int) (IntKind.wrap .i64 ((1:Int)+y10.1)) 24) (some ((slice (List.set (List.set (List.set (List.set o11.2.2.2.2 (o11.1+(Int.toNat (IntKind.wrap .i64 (o11.2.2.2.1-(1:Int))))) (nth .u8 ze (Int.toNat (IntKind.wrap .u32 ((IntKind.wrap .u32 ((Int.tmod (IntKind.wrap .u32 o11.2.2.1) (100:Int))*(2:Int)))+(1:Int)))))) (o11.1+(Int.toNat (IntKind.wrap .i64 (o11.2.2.2.1-(2:Int))))) (nth .u8 ze (Int.toNat (IntKind.wrap .u32 ((Int.tmod (IntKind.wrap .u32 o11.2.2.1) (100:Int))*(2:Int)))))) (o11.1+0) (jc (IntKind.wrap .u32 ((48:Int)+(IntKind.wrap .u32 (Int.tdiv (IntKind.wrap .u32 o11.2.2.1) (100:Int))))))) 0 (45:UInt8)) 0 (0+((Int.toNat (IntKind.wrap .i64 ((1:Int)+y10.1)))-0))),())) none) (cond (zE (1:Int) (IntKind.wrap .i64 ((1:Int)+y10.1)) 24) (some ((slice (List.set (List.set (List.set o11.2.2.2.2 (o11.1+(Int.toNat (IntKind.wrap .i64 (o11.2.2.2.1-(1:Int))))) (nth .u8 ze (Int.toNat (IntKind.wrap .u32 ((IntKind.wrap .u32 ((Int.tmod (IntKind.wrap .u32 o11.2.2.1) (100:Int))*(2:Int)))+(1:Int)))))) (o11.1+(Int.toNat (IntKind.wrap .i64 (o11.2.2.2.1-(2:Int))))) (nth .u8 ze (Int.toNat (IntKind.wrap .u32 ((Int.tmod (IntKind.wrap .u32 o11.2.2.1) (100:Int))*(2:Int)))))) (o11.1+0) (jc (IntKind.wrap .u32 ((48:Int)+(IntKind.wrap .u32 (Int.tdiv (IntKind.wrap .u32 o11.2.2.1) (100:Int))))))) 1 (1+((Int.toNat (IntKind.wrap .i64 ((1:Int)+y10.1)))-1))),())) none)) none) (cond (decide (p0<(0:Int))) (cond (zE (0:Int) (IntKind.wrap .i64 ((1:Int)+y10.1)) 24) (some ((slice (List.set (List.set (List.set o11.2.2.2.2 (o11.1+(Int.toNat (IntKind.wrap .i64 (o11.2.2.2.1-(1:Int))))) (nth .u8 ze (Int.toNat (IntKind.wrap .u32 ((IntKind.wrap .u32 ((Int.tmod (IntKind.wrap .u32 o11.2.2.1) (100:Int))*(2:Int)))+(1:Int)))))) (o11.1+(Int.toNat (IntKind.wrap .i64 (o11.2.2.2.1-(2:Int))))) (nth .u8 ze (Int.toNat (IntKind.wrap .u32 ((Int.tmod (IntKind.wrap .u32 o11.2.2.1) (100:Int))*(2:Int)))))) 0 (45:UInt8)) 0 (0+((Int.toNat (IntKind.wrap .i64 ((1:Int)+y10.1)))-0))),())) none) (cond (zE (1:Int) (IntKind.wrap .i64 ((1:Int)+y10.1)) 24) (some ((slice (List.set (List.set o11.2.2.2.2 (o11.1+(Int.toNat (IntKind.wrap .i64 (o11.2.2.2.1-(1:Int))))) (nth .u8 ze (Int.toNat (IntKind.wrap .u32 ((IntKind.wrap .u32 ((Int.tmod (IntKind.wrap .u32 o11.2.2.1) (100:Int))*(2:Int)))+(1:Int)))))) (o11.1+(Int.toNat (IntKind.wrap .i64 (o11.2.2.2.1-(2:Int))))) (nth .u8 ze (Int.toNat (IntKind.wrap .u32 ((Int.tmod (IntKind.wrap .u32 o11.2.2.1) (100:Int))*(2:Int)))))) 1 (1+((Int.toNat (IntKind.wrap .i64 ((1:Int)+y10.1)))-1))),())) none))) none) none) none) none) (cond (decide ((0:Int)<o11.2.2.2.1)) (cond (inb (0:Int) o11.2.1) (cond (decide (p0<(0:Int))) (cond (zE (0:Int) (IntKind.wrap .i64 ((1:Int)+y10.1)) 24) (some ((slice (List.set (List.set o11.2.2.2.2 (o11.1+0) (jc (IntKind.wrap .u32 ((48:Int)+(IntKind.wrap .u32 o11.2.2.1))))) 0 (45:UInt8)) 0 (0+((Int.toNat (IntKind.wrap .i64 ((1:Int)+y10.1)))-0))),())) none) (cond (zE (1:Int) (IntKind.wrap .i64 ((1:Int)+y10.1)) 24) (some ((slice (List.set o11.2.2.2.2 (o11.1+0) (jc (IntKind.wrap .u32 ((48:Int)+(IntKind.wrap .u32 o11.2.2.1))))) 1 (1+((Int.toNat (IntKind.wrap .i64 ((1:Int)+y10.1)))-1))),())) none)) none) (cond (decide (p0<(0:Int))) (cond (zE (0:Int) (IntKind.wrap .i64 ((1:Int)+y10.1)) 24) (some ((slice (List.set o11.2.2.2.2 0 (45:UInt8)) 0 (0+((Int.toNat (IntKind.wrap .i64 ((1:Int)+y10.1)))-0))),())) none) (cond (zE (1:Int) (IntKind.wrap .i64 ((1:Int)+y10.1)) 24) (some ((slice o11.2.2.2.2 1 (1+((Int.toNat (IntKind.wrap .i64 ((1:Int)+y10.1)))-1))),())) none)))))) none)))) (cond (decide (p0<(0:Int))) (Option.bind (zf N (IntKind.wrap .u64 (0-(IntKind.wrap .u64 p0)))) fun y12=>(cond (zE (1:Int) (IntKind.wrap .i64 ((1:Int)+y12.1)) 24) (Option.bind (zd N N 1 ((Int.toNat (IntKind.wrap .i64 ((1:Int)+y12.1)))-1) (IntKind.wrap .u64 (0-(IntKind.wrap .u64 p0))) ((((Int.toNat (IntKind.wrap .i64 ((1:Int)+y12.1)))-1):Nat):Int) zoR) fun o13=>(cond (decide ((4:Int)<=o13.2.2.2.1)) (cond (inb (IntKind.wrap .u32 ((IntKind.wrap .u32 ((Int.tmod (Int.tmod (IntKind.wrap .u32 o13.2.2.1) (10000:Int)) (100:Int))*(2:Int)))+(1:Int))) 200) (cond (inb (IntKind.wrap .u32 ((Int.tmod (Int.tmod (IntKind.wrap .u32 o13.2.2.1) (10000:Int)) (100:Int))*(2:Int))) 200) (cond (inb (IntKind.wrap .i64 (o13.2.2.2.1-(1:Int))) o13.2.1) (cond (inb (IntKind.wrap .i64 (o13.2.2.2.1-(2:Int))) o13.2.1) (cond (inb (IntKind.wrap .u32 ((IntKind.wrap .u32 ((IntKind.wrap .u32 (Int.tdiv (Int.tmod (IntKind.wrap .u32 o13.2.2.1) (10000:Int)) (100:Int)))*(2:Int)))+(1:Int))) 200) (cond (inb (IntKind.wrap .u32 ((IntKind.wrap .u32 (Int.tdiv (Int.tmod (IntKind.wrap .u32 o13.2.2.1) (10000:Int)) (100:Int)))*(2:Int))) 200) (cond (inb (IntKind.wrap .i64 (o13.2.2.2.1-(3:Int))) o13.2.1) (cond (inb (IntKind.wrap .i64 (o13.2.2.2.1-(4:Int))) o13.2.1) (cond (decide ((2:Int)<=(IntKind.wrap .i64 (o13.2.2.2.1-(4:Int))))) (cond (inb (IntKind.wrap .u32 ((IntKind.wrap .u32 ((Int.tmod (IntKind.wrap .u32 (Int.tdiv (IntKind.wrap .u32 o13.2.2.1) (10000:Int))) (100:Int))*(2:Int)))+(1:Int))) 200) (cond (inb (IntKind.wrap .u32 ((Int.tmod (IntKind.wrap .u32 (Int.tdiv (IntKind.wrap .u32 o13.2.2.1) (10000:Int))) (100:Int))*(2:Int))) 200) (cond (inb (IntKind.wrap .i64 ((IntKind.wrap .i64 (o13.2.2.2.1-(4:Int)))-(1:Int))) o13.2.1) (cond (inb (IntKind.wrap .i64 ((IntKind.wrap .i64 (o13.2.2.2.1-(4:Int)))-(2:Int))) o13.2.1) (cond (decide ((0:Int)<(IntKind.wrap .i64 ((IntKind.wrap .i64 (o13.2.2.2.1-(4:Int)))-(2:Int))))) (cond (inb (0:Int) o13.2.1) (cond (decide (p0<(0:Int))) (cond (zE (0:Int) (IntKind.wrap .i64 ((1:Int)+y12.1)) 24) (some ((slice (List.set (List.set (List.set (List.set (List.set (List.set (List.set (List.set o13.2.2.2.2 (o13.1+(Int.toNat (IntKind.wrap .i64 (o13.2.2.2.1-(1:Int))))) (nth .u8 ze (Int.toNat (IntKind.wrap .u32 ((IntKind.wrap .u32 ((Int.tmod (Int.tmod (IntKind.wrap .u32 o13.2.2.1) (10000:Int)) (100:Int))*(2:Int)))+(1:Int)))))) (o13.1+(Int.toNat (IntKind.wrap .i64 (o13.2.2.2.1-(2:Int))))) (nth .u8 ze (Int.toNat (IntKind.wrap .u32 ((Int.tmod (Int.tmod (IntKind.wrap .u32 o13.2.2.1) (10000:Int)) (100:Int))*(2:Int)))))) (o13.1+(Int.toNat (IntKind.wrap .i64 (o13.2.2.2.1-(3:Int))))) (nth .u8 ze (Int.toNat (IntKind.wrap .u32 ((IntKind.wrap .u32 ((IntKind.wrap .u32 (Int.tdiv (Int.tmod (IntKind.wrap .u32 o13.2.2.1) (10000:Int)) (100:Int)))*(2:Int)))+(1:Int)))))) (o13.1+(Int.toNat (IntKind.wrap .i64 (o13.2.2.2.1-(4:Int))))) (nth .u8 ze (Int.toNat (IntKind.wrap .u32 ((IntKind.wrap .u32 (Int.tdiv (Int.tmod (IntKind.wrap .u32 o13.2.2.1) (10000:Int)) (100:Int)))*(2:Int)))))) (o13.1+(Int.toNat (IntKind.wrap .i64 ((IntKind.wrap .i64 (o13.2.2.2.1-(4:Int)))-(1:Int))))) (nth .u8 ze (Int.toNat (IntKind.wrap .u32 ((IntKind.wrap .u32 ((Int.tmod (IntKind.wrap .u32 (Int.tdiv (IntKind.wrap .u32 o13.2.2.1) (10000:Int))) (100:Int))*(2:Int)))+(1:Int)))))) (o13.1+(Int.toNat (IntKind.wrap .i64 ((IntKind.wrap .i64 (o13.2.2.2.1-(4:Int)))-(2:Int))))) (nth .u8 ze (Int.toNat (IntKind.wrap .u32 ((Int.tmod (IntKind.wrap .u32 (Int.tdiv (IntKind.wrap .u32 o13.2.2.1) (10000:Int))) (100:Int))*(2:Int)))))) (o13.1+0) (jc (IntKind.wrap .u32 ((48:Int)+(IntKind.wrap .u32 (Int.tdiv (IntKind.wrap .u32 (Int.tdiv (IntKind.wrap .u32 o13.2.2.1) (10000:Int))) (100:Int))))))) 0 (45:UInt8)) 0 (0+((Int.toNat (IntKind.wrap .i64 ((1:Int)+y12.1)))-0))),())) none) (cond (zE (1:Int) (IntKind.wrap .i64 ((1:Int)+y12.1)) 24) (some ((slice (List.set (List.set (List.set (List.set (List.set (List.set (List.set o13.2.2.2.2 (o13.1+(Int.toNat (IntKind.wrap .i64 (o13.2.2.2.1-(1:Int))))) (nth .u8 ze (Int.toNat (IntKind.wrap .u32 ((IntKind.wrap .u32 ((Int.tmod (Int.tmod (IntKind.wrap .u32 o13.2.2.1) (10000:Int)) (100:Int))*(2:Int)))+(1:Int)))))) (o13.1+(Int.toNat (IntKind.wrap .i64 (o13.2.2.2.1-(2:Int))))) (nth .u8 ze (Int.toNat (IntKind.wrap .u32 ((Int.tmod (Int.tmod (IntKind.wrap .u32 o13.2.2.1) (10000:Int)) (100:Int))*(2:Int)))))) (o13.1+(Int.toNat (IntKind.wrap .i64 (o13.2.2.2.1-(3:Int))))) (nth .u8 ze (Int.toNat (IntKind.wrap .u32 ((IntKind.wrap .u32 ((IntKind.wrap .u32 (Int.tdiv (Int.tmod (IntKind.wrap .u32 o13.2.2.1) (10000:Int)) (100:Int)))*(2:Int)))+(1:Int)))))) (o13.1+(Int.toNat (IntKind.wrap .i64 (o13.2.2.2.1-(4:Int))))) (nth .u8 ze (Int.toNat (IntKind.wrap .u32 ((IntKind.wrap .u32 (Int.tdiv (Int.tmod (IntKind.wrap .u32 o13.2.2.1) (10000:Int)) (100:Int)))*(2:Int)))))) (o13.1+(Int.toNat (IntKind.wrap .i64 ((IntKind.wrap .i64 (o13.2.2.2.1-(4:Int)))-(1:Int))))) (nth .u8 ze (Int.toNat (IntKind.wrap .u32 ((IntKind.wrap .u32 ((Int.tmod (IntKind.wrap .u32 (Int.tdiv (IntKind.wrap .u32 o13.2.2.1) (10000:Int))) (100:Int))*(2:Int)))+(1:Int)))))) (o13.1+(Int.toNat (IntKind.wrap .i64 ((IntKind.wrap .i64 (o13.2.2.2.1-(4:Int)))-(2:Int))))) (nth .u8 ze (Int.toNat (IntKind.wrap .u32 ((Int.tmod (IntKind.wrap .u32 (Int.tdiv (IntKind.wrap .u32 o13.2.2.1) (10000:Int))) (100:Int))*(2:Int)))))) (o13.1+0) (jc (IntKind.wrap .u32 ((48:Int)+(IntKind.wrap .u32 (Int.tdiv (IntKind.wrap .u32 (Int.tdiv (IntKind.wrap .u32 o13.2.2.1) (10000:Int))) (100:Int))))))) 1 (1+((Int.toNat (IntKind.wrap .i64 ((1:Int)+y12.1)))-1))),())) none)) none) (cond (decide (p0<(0:Int))) (cond (zE (0:Int) (IntKind.wrap .i64 ((1:Int)+y12.1)) 24) (some ((slice (List.set (List.set (List.set (List.set (List.set (List.set (List.set o13.2.2.2.2 (o13.1+(Int.toNat (IntKind.wrap .i64 (o13.2.2.2.1-(1:Int))))) (nth .u8 ze (Int.toNat (IntKind.wrap .u32 ((IntKind.wrap .u32 ((Int.tmod (Int.tmod (IntKind.wrap .u32 o13.2.2.1) (10000:Int)) (100:Int))*(2:Int)))+(1:Int)))))) (o13.1+(Int.toNat (IntKind.wrap .i64 (o13.2.2.2.1-(2:Int))))) (nth .u8 ze (Int.toNat (IntKind.wrap .u32 ((Int.tmod (Int.tmod (IntKind.wrap .u32 o13.2.2.1) (10000:Int)) (100:Int))*(2:Int)))))) (o13.1+(Int.toNat (IntKind.wrap .i64 (o13.2.2.2.1-(3:Int))))) (nth .u8 ze (Int.toNat (IntKind.wrap .u32 ((IntKind.wrap .u32 ((IntKind.wrap .u32 (Int.tdiv (Int.tmod (IntKind.wrap .u32 o13.2.2.1) (10000:Int)) (100:Int)))*(2:Int)))+(1:Int)))))) (o13.1+(Int.toNat (IntKind.wrap .i64 (o13.2.2.2.1-(4:Int))))) (nth .u8 ze (Int.toNat (IntKind.wrap .u32 ((IntKind.wrap .u32 (Int.tdiv (Int.tmod (IntKind.wrap .u32 o13.2.2.1) (10000:Int)) (100:Int)))*(2:Int)))))) (o13.1+(Int.toNat (IntKind.wrap .i64 ((IntKind.wrap .i64 (o13.2.2.2.1-(4:Int)))-(1:Int))))) (nth .u8 ze (Int.toNat (IntKind.wrap .u32 ((IntKind.wrap .u32 ((Int.tmod (IntKind.wrap .u32 (Int.tdiv (IntKind.wrap .u32 o13.2.2.1) (10000:Int))) (100:Int))*(2:Int)))+(1:Int)))))) (o13.1+(Int.toNat (IntKind.wrap .i64 ((IntKind.wrap .i64 (o13.2.2.2.1-(4:Int)))-(2:Int))))) (nth .u8 ze (Int.toNat (IntKind.wrap .u32 ((Int.tmod (IntKind.wrap .u32 (Int.tdiv (IntKind.wrap .u32 o13.2.2.1) (10000:Int))) (100:Int))*(2:Int)))))) 0 (45:UInt8)) 0 (0+((Int.toNat (IntKind.wrap .i64 ((1:Int)+y12.1)))-0))),())) none) (cond (zE (1:Int) (IntKind.wrap .i64 ((1:Int)+y12.1)) 24) (some ((slice (List.set (List.set (List.set (List.set (List.set (List.set o13.2.2.2.2 (o13.1+(Int.toNat (IntKind.wrap .i64 (o13.2.2.2.1-(1:Int))))) (nth .u8 ze (Int.toNat (IntKind.wrap .u32 ((IntKind.wrap .u32 ((Int.tmod (Int.tmod (IntKind.wrap .u32 o13.2.2.1) (10000:Int)) (100:Int))*(2:Int)))+(1:Int)))))) (o13.1+(Int.toNat (IntKind.wrap .i64 (o13.2.2.2.1-(2:Int))))) (nth .u8 ze (Int.toNat (IntKind.wrap .u32 ((Int.tmod (Int.tmod (IntKind.wrap .u32 o13.2.2.1) (10000:Int)) (100:Int))*(2:Int)))))) (o13.1+(Int.toNat (IntKind.wrap .i64 (o13.2.2.2.1-(3:Int))))) (nth .u8 ze (Int.toNat (IntKind.wrap .u32 ((IntKind.wrap .u32 ((IntKind.wrap .u32 (Int.tdiv (Int.tmod (IntKind.wrap .u32 o13.2.2.1) (10000:Int)) (100:Int)))*(2:Int)))+(1:Int)))))) (o13.1+(Int.toNat (IntKind.wrap .i64 (o13.2.2.2.1-(4:Int))))) (nth .u8 ze (Int.toNat (IntKind.wrap .u32 ((IntKind.wrap .u32 (Int.tdiv (Int.tmod (IntKind.wrap .u32 o13.2.2.1) (10000:Int)) (100:Int)))*(2:Int)))))) (o13.1+(Int.toNat (IntKind.wrap .i64 ((IntKind.wrap .i64 (o13.2.2.2.1-(4:Int)))-(1:Int))))) (nth .u8 ze (Int.toNat (IntKind.wrap .u32 ((IntKind.wrap .u32 ((Int.tmod (IntKind.wrap .u32 (Int.tdiv (IntKind.wrap .u32 o13.2.2.1) (10000:Int))) (100:Int))*(2:Int)))+(1:Int)))))) (o13.1+(Int.toNat (IntKind.wrap .i64 ((IntKind.wrap .i64 (o13.2.2.2.1-(4:Int)))-(2:Int))))) (nth .u8 ze (Int.toNat (IntKind.wrap .u32 ((Int.tmod (IntKind.wrap .u32 (Int.tdiv (IntKind.wrap .u32 o13.2.2.1) (10000:Int))) (100:Int))*(2:Int)))))) 1 (1+((Int.toNat (IntKind.wrap .i64 ((1:Int)+y12.1)))-1))),())) none))) none) none) none) none) (cond (decide ((0:Int)<(IntKind.wrap .i64 (o13.2.2.2.1-(4:Int))))) (cond (inb (0:Int) o13.2.1) (cond (decide (p0<(0:Int))) (cond (zE (0:Int) (IntKind.wrap .i64 ((1:Int)+y12.1)) 24) (some ((slice (List.set (List.set (List.set (List.set (List.set (List.set o13.2.2.2.2 (o13.1+(Int.toNat (IntKind.wrap .i64 (o13.2.2.2.1-(1:Int))))) (nth .u8 ze (Int.toNat (IntKind.wrap .u32 ((IntKind.wrap .u32 ((Int.tmod (Int.tmod (IntKind.wrap .u32 o13.2.2.1) (10000:Int)) (100:Int))*(2:Int)))+(1:Int)))))) (o13.1+(Int.toNat (IntKind.wrap .i64 (o13.2.2.2.1-(2:Int))))) (nth .u8 ze (Int.toNat (IntKind.wrap .u32 ((Int.tmod (Int.tmod (IntKind.wrap .u32 o13.2.2.1) (10000:Int)) (100:Int))*(2:Int)))))) (o13.1+(Int.toNat (IntKind.wrap .i64 (o13.2.2.2.1-(3:Int))))) (nth .u8 ze (Int.toNat (IntKind.wrap .u32 ((IntKind.wrap .u32 ((IntKind.wrap .u32 (Int.tdiv (Int.tmod (IntKind.wrap .u32 o13.2.2.1) (10000:Int)) (100:Int)))*(2:Int)))+(1:Int)))))) (o13.1+(Int.toNat (IntKind.wrap .i64 (o13.2.2.2.1-(4:Int))))) (nth .u8 ze (Int.toNat (IntKind.wrap .u32 ((IntKind.wrap .u32 (Int.tdiv (Int.tmod (IntKind.wrap .u32 o13.2.2.1) (10000:Int)) (100:Int)))*(2:Int)))))) (o13.1+0) (jc (IntKind.wrap .u32 ((48:Int)+(IntKind.wrap .u32 (Int.tdiv (IntKind.wrap .u32 o13.2.2.1) (10000:Int))))))) 0 (45:UInt8)) 0 (0+((Int.toNat (IntKind.wrap .i64 ((1:Int)+y12.1)))-0))),())) none) (cond (zE (1:Int) (IntKind.wrap .i64 ((1:Int)+y12.1)) 24) (some ((slice (List.set (List.set (List.set (List.set (List.set o13.2.2.2.2 (o13.1+(Int.toNat (IntKind.wrap .i64 (o13.2.2.2.1-(1:Int))))) (nth .u8 ze (Int.toNat (IntKind.wrap .u32 ((IntKind.wrap .u32 ((Int.tmod (Int.tmod (IntKind.wrap .u32 o13.2.2.1) (10000:Int)) (100:Int))*(2:Int)))+(1:Int)))))) (o13.1+(Int.toNat (IntKind.wrap .i64 (o13.2.2.2.1-(2:Int))))) (nth .u8 ze (Int.toNat (IntKind.wrap .u32 ((Int.tmod (Int.tmod (IntKind.wrap .u32 o13.2.2.1) (10000:Int)) (100:Int))*(2:Int)))))) (o13.1+(Int.toNat (IntKind.wrap .i64 (o13.2.2.2.1-(3:Int))))) (nth .u8 ze (Int.toNat (IntKind.wrap .u32 ((IntKind.wrap .u32 ((IntKind.wrap .u32 (Int.tdiv (Int.tmod (IntKind.wrap .u32 o13.2.2.1) (10000:Int)) (100:Int)))*(2:Int)))+(1:Int)))))) (o13.1+(Int.toNat (IntKind.wrap .i64 (o13.2.2.2.1-(4:Int))))) (nth .u8 ze (Int.toNat (IntKind.wrap .u32 ((IntKind.wrap .u32 (Int.tdiv (Int.tmod (IntKind.wrap .u32 o13.2.2.1) (10000:Int)) (100:Int)))*(2:Int)))))) (o13.1+0) (jc (IntKind.wrap .u32 ((48:Int)+(IntKind.wrap .u32 (Int.tdiv (IntKind.wrap .u32 o13.2.2.1) (10000:Int))))))) 1 (1+((Int.toNat (IntKind.wrap .i64 ((1:Int)+y12.1)))-1))),())) none)) none) (cond (decide (p0<(0:Int))) (cond (zE (0:Int) (IntKind.wrap .i64 ((1:Int)+y12.1)) 24) (some ((slice (List.set (List.set (List.set (List.set (List.set o13.2.2.2.2 (o13.1+(Int.toNat (IntKind.wrap .i64 (o13.2.2.2.1-(1:Int))))) (nth .u8 ze (Int.toNat (IntKind.wrap .u32 ((IntKind.wrap .u32 ((Int.tmod (Int.tmod (IntKind.wrap .u32 o13.2.2.1) (10000:Int)) (100:Int))*(2:Int)))+(1:Int)))))) (o13.1+(Int.toNat (IntKind.wrap .i64 (o13.2.2.2.1-(2:Int))))) (nth .u8 ze (Int.toNat (IntKind.wrap .u32 ((Int.tmod (Int.tmod (IntKind.wrap .u32 o13.2.2.1) (10000:Int)) (100:Int))*(2:Int)))))) (o13.1+(Int.toNat (IntKind.wrap .i64 (o13.2.2.2.1-(3:Int))))) (nth .u8 ze (Int.toNat (IntKind.wrap .u32 ((IntKind.wrap .u32 ((IntKind.wrap .u32 (Int.tdiv (Int.tmod (IntKind.wrap .u32 o13.2.2.1) (10000:Int)) (100:Int)))*(2:Int)))+(1:Int)))))) (o13.1+(Int.toNat (IntKind.wrap .i64 (o13.2.2.2.1-(4:Int))))) (nth .u8 ze (Int.toNat (IntKind.wrap .u32 ((IntKind.wrap .u32 (Int.tdiv (Int.tmod (IntKind.wrap .u32 o13.2.2.1) (10000:Int)) (100:Int)))*(2:Int)))))) 0 (45:UInt8)) 0 (0+((Int.toNat (IntKind.wrap .i64 ((1:Int)+y12.1)))-0))),())) none) (cond (zE (1:Int) (IntKind.wrap .i64 ((1:Int)+y12.1)) 24) (some ((slice (List.set (List.set (List.set (List.set o13.2.2.2.2 (o13.1+(Int.toNat (IntKind.wrap .i64 (o13.2.2.2.1-(1:Int))))) (nth .u8 ze (Int.toNat (IntKind.wrap .u32 ((IntKind.wrap .u32 ((Int.tmod (Int.tmod (IntKind.wrap .u32 o13.2.2.1) (10000:Int)) (100:Int))*(2:Int)))+(1:Int)))))) (o13.1+(Int.toNat (IntKind.wrap .i64 (o13.2.2.2.1-(2:Int))))) (nth .u8 ze (Int.toNat (IntKind.wrap .u32 ((Int.tmod (Int.tmod (IntKind.wrap .u32 o13.2.2.1) (10000:Int)) (100:Int))*(2:Int)))))) (o13.1+(Int.toNat (IntKind.wrap .i64 (o13.2.2.2.1-(3:Int))))) (nth .u8 ze (Int.toNat (IntKind.wrap .u32 ((IntKind.wrap .u32 ((IntKind.wrap .u32 (Int.tdiv (Int.tmod (IntKind.wrap .u32 o13.2.2.1) (10000:Int)) (100:Int)))*(2:Int)))+(1:Int)))))) (o13.1+(Int.toNat (IntKind.wrap .i64 (o13.2.2.2.1-(4:Int))))) (nth .u8 ze (Int.toNat (IntKind.wrap .u32 ((IntKind.wrap .u32 (Int.tdiv (Int.tmod (IntKind.wrap .u32 o13.2.2.1) (10000:Int)) (100:Int)))*(2:Int)))))) 1 (1+((Int.toNat (IntKind.wrap .i64 ((1:Int)+y12.1)))-1))),())) none)))) none) none) none) none) none) none) none) none) (cond (decide ((2:Int)<=o13.2.2.2.1)) (cond (inb (IntKind.wrap .u32 ((IntKind.wrap .u32 ((Int.tmod (IntKind.wrap .u32 o13.2.2.1) (100:Int))*(2:Int)))+(1:Int))) 200) (cond (inb (IntKind.wrap .u32 ((Int.tmod (IntKind.wrap .u32 o13.2.2.1) (100:Int))*(2:Int))) 200) (cond (inb (IntKind.wrap .i64 (o13.2.2.2.1-(1:Int))) o13.2.1) (cond (inb (IntKind.wrap .i64 (o13.2.2.2.1-(2:Int))) o13.2.1) (cond (decide ((0:Int)<(IntKind.wrap .i64 (o13.2.2.2.1-(2:Int))))) (cond (inb (0:Int) o13.2.1) (cond (decide (p0<(0:Int))) (cond (zE (0:Int) (IntKind.wrap .i64 ((1:Int)+y12.1)) 24) (some ((slice (List.set (List.set (List.set (List.set o13.2.2.2.2 (o13.1+(Int.toNat (IntKind.wrap .i64 (o13.2.2.2.1-(1:Int))))) (nth .u8 ze (Int.toNat (IntKind.wrap .u32 ((IntKind.wrap .u32 ((Int.tmod (IntKind.wrap .u32 o13.2.2.1) (100:Int))*(2:Int)))+(1:Int)))))) (o13.1+(Int.toNat (IntKind.wrap .i64 (o13.2.2.2.1-(2:Int))))) (nth .u8 ze (Int.toNat (IntKind.wrap .u32 ((Int.tmod (IntKind.wrap .u32 o13.2.2.1) (100:Int))*(2:Int)))))) (o13.1+0) (jc (IntKind.wrap .u32 ((48:Int)+(IntKind.wrap .u32 (Int.tdiv (IntKind.wrap .u32 o13.2.2.1) (100:Int))))))) 0 (45:UInt8)) 0 (0+((Int.toNat (IntKind.wrap .i64 ((1:Int)+y12.1)))-0))),())) none) (cond (zE (1:Int) (IntKind.wrap .i64 ((1:Int)+y12.1)) 24) (some ((slice (List.set (List.set (List.set o13.2.2.2.2 (o13.1+(Int.toNat (IntKind.wrap .i64 (o13.2.2.2.1-(1:Int))))) (nth .u8 ze (Int.toNat (IntKind.wrap .u32 ((IntKind.wrap .u32 ((Int.tmod (IntKind.wrap .u32 o13.2.2.1) (100:Int))*(2:Int)))+(1:Int)))))) (o13.1+(Int.toNat (IntKind.wrap .i64 (o13.2.2.2.1-(2:Int))))) (nth .u8 ze (Int.toNat (IntKind.wrap .u32 ((Int.tmod (IntKind.wrap .u32 o13.2.2.1) (100:Int))*(2:Int)))))) (o13.1+0) (jc (IntKind.wrap .u32 ((48:Int)+(IntKind.wrap .u32 (Int.tdiv (IntKind.wrap .u32 o13.2.2.1) (100:Int))))))) 1 (1+((Int.toNat (IntKind.wrap .i64 ((1:Int)+y12.1)))-1))),())) none)) none) (cond (decide (p0<(0:Int))) (cond (zE (0:Int) (IntKind.wrap .i64 ((1:Int)+y12.1)) 24) (some ((slice (List.set (List.set (List.set o13.2.2.2.2 (o13.1+(Int.toNat (IntKind.wrap .i64 (o13.2.2.2.1-(1:Int))))) (nth .u8 ze (Int.toNat (IntKind.wrap .u32 ((IntKind.wrap .u32 ((Int.tmod (IntKind.wrap .u32 o13.2.2.1) (100:Int))*(2:Int)))+(1:Int)))))) (o13.1+(Int.toNat (IntKind.wrap .i64 (o13.2.2.2.1-(2:Int))))) (nth .u8 ze (Int.toNat (IntKind.wrap .u32 ((Int.tmod (IntKind.wrap .u32 o13.2.2.1) (100:Int))*(2:Int)))))) 0 (45:UInt8)) 0 (0+((Int.toNat (IntKind.wrap .i64 ((1:Int)+y12.1)))-0))),())) none) (cond (zE (1:Int) (IntKind.wrap .i64 ((1:Int)+y12.1)) 24) (some ((slice (List.set (List.set o13.2.2.2.2 (o13.1+(Int.toNat (IntKind.wrap .i64 (o13.2.2.2.1-(1:Int))))) (nth .u8 ze (Int.toNat (IntKind.wrap .u32 ((IntKind.wrap .u32 ((Int.tmod (IntKind.wrap .u32 o13.2.2.1) (100:Int))*(2:Int)))+(1:Int)))))) (o13.1+(Int.toNat (IntKind.wrap .i64 (o13.2.2.2.1-(2:Int))))) (nth .u8 ze (Int.toNat (IntKind.wrap .u32 ((Int.tmod (IntKind.wrap .u32 o13.2.2.1) (100:Int))*(2:Int)))))) 1 (1+((Int.toNat (IntKind.wrap .i64 ((1:Int)+y12.1)))-1))),())) none))) none) none) none) none) (cond (decide ((0:Int)<o13.2.2.2.1)) (cond (inb (0:Int) o13.2.1) (cond (decide (p0<(0:Int))) (cond (zE (0:Int) (IntKind.wrap .i64 ((1:Int)+y12.1)) 24) (some ((slice (List.set (List.set o13.2.2.2.2 (o13.1+0) (jc (IntKind.wrap .u32 ((48:Int)+(IntKind.wrap .u32 o13.2.2.1))))) 0 (45:UInt8)) 0 (0+((Int.toNat (IntKind.wrap .i64 ((1:Int)+y12.1)))-0))),())) none) (cond (zE (1:Int) (IntKind.wrap .i64 ((1:Int)+y12.1)) 24) (some ((slice (List.set o13.2.2.2.2 (o13.1+0) (jc (IntKind.wrap .u32 ((48:Int)+(IntKind.wrap .u32 o13.2.2.1))))) 1 (1+((Int.toNat (IntKind.wrap .i64 ((1:Int)+y12.1)))-1))),())) none)) none) (cond (decide (p0<(0:Int))) (cond (zE (0:Int) (IntKind.wrap .i64 ((1:Int)+y12.1)) 24) (some ((slice (List.set o13.2.2.2.2 0 (45:UInt8)) 0 (0+((Int.toNat (IntKind.wrap .i64 ((1:Int)+y12.1)))-0))),())) none) (cond (zE (1:Int) (IntKind.wrap .i64 ((1:Int)+y12.1)) 24) (some ((slice o13.2.2.2.2 1 (1+((Int.toNat (IntKind.wrap .i64 ((1:Int)+y12.1)))-1))),())) none)))))) none)) (Option.bind (zf N (IntKind.wrap .u64 p0)) fun y14=>(cond (zE (1:Int) (IntKind.wrap .i64 ((1:Int)+y14.1)) 24) (Option.bind (zd N N 1 ((Int.toNat (IntKind.wrap .i64 ((1:Int)+y14.1)))-1) (IntKind.wrap .u64 p0) ((((Int.toNat (IntKind.wrap .i64 ((1:Int)+y14.1)))-1):Nat):Int) zoR) fun o15=>(cond (decide ((4:Int)<=o15.2.2.2.1)) (cond (inb (IntKind.wrap .u32 ((IntKind.wrap .u32 ((Int.tmod (Int.tmod (IntKind.wrap .u32 o15.2.2.1) (10000:Int)) (100:Int))*(2:Int)))+(1:Int))) 200) (cond (inb (IntKind.wrap .u32 ((Int.tmod (Int.tmod (IntKind.wrap .u32 o15.2.2.1) (10000:Int)) (100:Int))*(2:Int))) 200) (cond (inb (IntKind.wrap .i64 (o15.2.2.2.1-(1:Int))) o15.2.1) (cond (inb (IntKind.wrap .i64 (o15.2.2.2.1-(2:Int))) o15.2.1) (cond (inb (IntKind.wrap .u32 ((IntKind.wrap .u32 ((IntKind.wrap .u32 (Int.tdiv (Int.tmod (IntKind.wrap .u32 o15.2.2.1) (10000:Int)) (100:Int)))*(2:Int)))+(1:Int))) 200) (cond (inb (IntKind.wrap .u32 ((IntKind.wrap .u32 (Int.tdiv (Int.tmod (IntKind.wrap .u32 o15.2.2.1) (10000:Int)) (100:Int)))*(2:Int))) 200) (cond (inb (IntKind.wrap .i64 (o15.2.2.2.1-(3:Int))) o15.2.1) (cond (inb (IntKind.wrap .i64 (o15.2.2.2.1-(4:Int))) o15.2.1) (cond (decide ((2:Int)<=(IntKind.wrap .i64 (o15.2.2.2.1-(4:Int))))) (cond (inb (IntKind.wrap .u32 ((IntKind.wrap .u32 ((Int.tmod (IntKind.wrap .u32 (Int.tdiv (IntKind.wrap .u32 o15.2.2.1) (10000:Int))) (100:Int))*(2:Int)))+(1:Int))) 200) (cond (inb (IntKind.wrap .u32 ((Int.tmod (IntKind.wrap .u32 (Int.tdiv (IntKind.wrap .u32 o15.2.2.1) (10000:Int))) (100:Int))*(2:Int))) 200) (cond (inb (IntKind.wrap .i64 ((IntKind.wrap .i64 (o15.2.2.2.1-(4:Int)))-(1:Int))) o15.2.1) (cond (inb (IntKind.wrap .i64 ((IntKind.wrap .i64 (o15.2.2.2.1-(4:Int)))-(2:Int))) o15.2.1) (cond (decide ((0:Int)<(IntKind.wrap .i64 ((IntKind.wrap .i64 (o15.2.2.2.1-(4:Int)))-(2:Int))))) (cond (inb (0:Int) o15.2.1) (cond (decide (p0<(0:Int))) (cond (zE (0:Int) (IntKind.wrap .i64 ((1:Int)+y14.1)) 24) (some ((slice (List.set (List.set (List.set (List.set (List.set (List.set (List.set (List.set o15.2.2.2.2 (o15.1+(Int.toNat (IntKind.wrap .i64 (o15.2.2.2.1-(1:Int))))) (nth .u8 ze (Int.toNat (IntKind.wrap .u32 ((IntKind.wrap .u32 ((Int.tmod (Int.tmod (IntKind.wrap .u32 o15.2.2.1) (10000:Int)) (100:Int))*(2:Int)))+(1:Int)))))) (o15.1+(Int.toNat (IntKind.wrap .i64 (o15.2.2.2.1-(2:Int))))) (nth .u8 ze (Int.toNat (IntKind.wrap .u32 ((Int.tmod (Int.tmod (IntKind.wrap .u32 o15.2.2.1) (10000:Int)) (100:Int))*(2:Int)))))) (o15.1+(Int.toNat (IntKind.wrap .i64 (o15.2.2.2.1-(3:Int))))) (nth .u8 ze (Int.toNat (IntKind.wrap .u32 ((IntKind.wrap .u32 ((IntKind.wrap .u32 (Int.tdiv (Int.tmod (IntKind.wrap .u32 o15.2.2.1) (10000:Int)) (100:Int)))*(2:Int)))+(1:Int)))))) (o15.1+(Int.toNat (IntKind.wrap .i64 (o15.2.2.2.1-(4:Int))))) (nth .u8 ze (Int.toNat (IntKind.wrap .u32 ((IntKind.wrap .u32 (Int.tdiv (Int.tmod (IntKind.wrap .u32 o15.2.2.1) (10000:Int)) (100:Int)))*(2:Int)))))) (o15.1+(Int.toNat (IntKind.wrap .i64 ((IntKind.wrap .i64 (o15.2.2.2.1-(4:Int)))-(1:Int))))) (nth .u8 ze (Int.toNat (IntKind.wrap .u32 ((IntKind.wrap .u32 ((Int.tmod (IntKind.wrap .u32 (Int.tdiv (IntKind.wrap .u32 o15.2.2.1) (10000:Int))) (100:Int))*(2:Int)))+(1:Int)))))) (o15.1+(Int.toNat (IntKind.wrap .i64 ((IntKind.wrap .i64 (o15.2.2.2.1-(4:Int)))-(2:Int))))) (nth .u8 ze (Int.toNat (IntKind.wrap .u32 ((Int.tmod (IntKind.wrap .u32 (Int.tdiv (IntKind.wrap .u32 o15.2.2.1) (10000:Int))) (100:Int))*(2:Int)))))) (o15.1+0) (jc (IntKind.wrap .u32 ((48:Int)+(IntKind.wrap .u32 (Int.tdiv (IntKind.wrap .u32 (Int.tdiv (IntKind.wrap .u32 o15.2.2.1) (10000:Int))) (100:Int))))))) 0 (45:UInt8)) 0 (0+((Int.toNat (IntKind.wrap .i64 ((1:Int)+y14.1)))-0))),())) none) (cond (zE (1:Int) (IntKind.wrap .i64 ((1:Int)+y14.1)) 24) (some ((slice (List.set (List.set (List.set (List.set (List.set (List.set (List.set o15.2.2.2.2 (o15.1+(Int.toNat (IntKind.wrap .i64 (o15.2.2.2.1-(1:Int))))) (nth .u8 ze (Int.toNat (IntKind.wrap .u32 ((IntKind.wrap .u32 ((Int.tmod (Int.tmod (IntKind.wrap .u32 o15.2.2.1) (10000:Int)) (100:Int))*(2:Int)))+(1:Int)))))) (o15.1+(Int.toNat (IntKind.wrap .i64 (o15.2.2.2.1-(2:Int))))) (nth .u8 ze (Int.toNat (IntKind.wrap .u32 ((Int.tmod (Int.tmod (IntKind.wrap .u32 o15.2.2.1) (10000:Int)) (100:Int))*(2:Int)))))) (o15.1+(Int.toNat (IntKind.wrap .i64 (o15.2.2.2.1-(3:Int))))) (nth .u8 ze (Int.toNat (IntKind.wrap .u32 ((IntKind.wrap .u32 ((IntKind.wrap .u32 (Int.tdiv (Int.tmod (IntKind.wrap .u32 o15.2.2.1) (10000:Int)) (100:Int)))*(2:Int)))+(1:Int)))))) (o15.1+(Int.toNat (IntKind.wrap .i64 (o15.2.2.2.1-(4:Int))))) (nth .u8 ze (Int.toNat (IntKind.wrap .u32 ((IntKind.wrap .u32 (Int.tdiv (Int.tmod (IntKind.wrap .u32 o15.2.2.1) (10000:Int)) (100:Int)))*(2:Int)))))) (o15.1+(Int.toNat (IntKind.wrap .i64 ((IntKind.wrap .i64 (o15.2.2.2.1-(4:Int)))-(1:Int))))) (nth .u8 ze (Int.toNat (IntKind.wrap .u32 ((IntKind.wrap .u32 ((Int.tmod (IntKind.wrap .u32 (Int.tdiv (IntKind.wrap .u32 o15.2.2.1) (10000:Int))) (100:Int))*(2:Int)))+(1:Int)))))) (o15.1+(Int.toNat (IntKind.wrap .i64 ((IntKind.wrap .i64 (o15.2.2.2.1-(4:Int)))-(2:Int))))) (nth .u8 ze (Int.toNat (IntKind.wrap .u32 ((Int.tmod (IntKind.wrap .u32 (Int.tdiv (IntKind.wrap .u32 o15.2.2.1) (10000:Int))) (100:Int))*(2:Int)))))) (o15.1+0) (jc (IntKind.wrap .u32 ((48:Int)+(IntKind.wrap .u32 (Int.tdiv (IntKind.wrap .u32 (Int.tdiv (IntKind.wrap .u32 o15.2.2.1) (10000:Int))) (100:Int))))))) 1 (1+((Int.toNat (IntKind.wrap .i64 ((1:Int)+y14.1)))-1))),())) none)) none) (cond (decide (p0<(0:Int))) (cond (zE (0:Int) (IntKind.wrap .i64 ((1:Int)+y14.1)) 24) (some ((slice (List.set (List.set (List.set (List.set (List.set (List.set (List.set o15.2.2.2.2 (o15.1+(Int.toNat (IntKind.wrap .i64 (o15.2.2.2.1-(1:Int))))) (nth .u8 ze (Int.toNat (IntKind.wrap .u32 ((IntKind.wrap .u32 ((Int.tmod (Int.tmod (IntKind.wrap .u32 o15.2.2.1) (10000:Int)) (100:Int))*(2:Int)))+(1:Int)))))) (o15.1+(Int.toNat (IntKind.wrap .i64 (o15.2.2.2.1-(2:Int))))) (nth .u8 ze (Int.toNat (IntKind.wrap .u32 ((Int.tmod (Int.tmod (IntKind.wrap .u32 o15.2.2.1) (10000:Int)) (100:Int))*(2:Int)))))) (o15.1+(Int.toNat (IntKind.wrap .i64 (o15.2.2.2.1-(3:Int))))) (nth .u8 ze (Int.toNat (IntKind.wrap .u32 ((IntKind.wrap .u32 ((IntKind.wrap .u32 (Int.tdiv (Int.tmod (IntKind.wrap .u32 o15.2.2.1) (10000:Int)) (100:Int)))*(2:Int)))+(1:Int)))))) (o15.1+(Int.toNat (IntKind.wrap .i64 (o15.2.2.2.1-(4:Int))))) (nth .u8 ze (Int.toNat (IntKind.wrap .u32 ((IntKind.wrap .u32 (Int.tdiv (Int.tmod (IntKind.wrap .u32 o15.2.2.1) (10000:Int)) (100:Int)))*(2:Int)))))) (o15.1+(Int.toNat (IntKind.wrap .i64 ((IntKind.wrap .i64 (o15.2.2.2.1-(4:Int)))-(1:Int))))) (nth .u8 ze (Int.toNat (IntKind.wrap .u32 ((IntKind.wrap .u32 ((Int.tmod (IntKind.wrap .u32 (Int.tdiv (IntKind.wrap .u32 o15.2.2.1) (10000:Int))) (100:Int))*(2:Int)))+(1:Int)))))) (o15.1+(Int.toNat (IntKind.wrap .i64 ((IntKind.wrap .i64 (o15.2.2.2.1-(4:Int)))-(2:Int))))) (nth .u8 ze (Int.toNat (IntKind.wrap .u32 ((Int.tmod (IntKind.wrap .u32 (Int.tdiv (IntKind.wrap .u32 o15.2.2.1) (10000:Int))) (100:Int))*(2:Int)))))) 0 (45:UInt8)) 0 (0+((Int.toNat (IntKind.wrap .i64 ((1:Int)+y14.1)))-0))),())) none) (cond (zE (1:Int) (IntKind.wrap .i64 ((1:Int)+y14.1)) 24) (some ((slice (List.set (List.set (List.set (List.set (List.set (List.set o15.2.2.2.2 (o15.1+(Int.toNat (IntKind.wrap .i64 (o15.2.2.2.1-(1:Int))))) (nth .u8 ze (Int.toNat (IntKind.wrap .u32 ((IntKind.wrap .u32 ((Int.tmod (Int.tmod (IntKind.wrap .u32 o15.2.2.1) (10000:Int)) (100:Int))*(2:Int)))+(1:Int)))))) (o15.1+(Int.toNat (IntKind.wrap .i64 (o15.2.2.2.1-(2:Int))))) (nth .u8 ze (Int.toNat (IntKind.wrap .u32 ((Int.tmod (Int.tmod (IntKind.wrap .u32 o15.2.2.1) (10000:Int)) (100:Int))*(2:Int)))))) (o15.1+(Int.toNat (IntKind.wrap .i64 (o15.2.2.2.1-(3:Int))))) (nth .u8 ze (Int.toNat (IntKind.wrap .u32 ((IntKind.wrap .u32 ((IntKind.wrap .u32 (Int.tdiv (Int.tmod (IntKind.wrap .u32 o15.2.2.1) (10000:Int)) (100:Int)))*(2:Int)))+(1:Int)))))) (o15.1+(Int.toNat (IntKind.wrap .i64 (o15.2.2.2.1-(4:Int))))) (nth .u8 ze (Int.toNat (IntKind.wrap .u32 ((IntKind.wrap .u32 (Int.tdiv (Int.tmod (IntKind.wrap .u32 o15.2.2.1) (10000:Int)) (100:Int)))*(2:Int)))))) (o15.1+(Int.toNat (IntKind.wrap .i64 ((IntKind.wrap .i64 (o15.2.2.2.1-(4:Int)))-(1:Int))))) (nth .u8 ze (Int.toNat (IntKind.wrap .u32 ((IntKind.wrap .u32 ((Int.tmod (IntKind.wrap .u32 (Int.tdiv (IntKind.wrap .u32 o15.2.2.1) (10000:Int))) (100:Int))*(2:Int)))+(1:Int)))))) (o15.1+(Int.toNat (IntKind.wrap .i64 ((IntKind.wrap .i64 (o15.2.2.2.1-(4:Int)))-(2:Int))))) (nth .u8 ze (Int.toNat (IntKind.wrap .u32 ((Int.tmod (IntKind.wrap .u32 (Int.tdiv (IntKind.wrap .u32 o15.2.2.1) (10000:Int))) (100:Int))*(2:Int)))))) 1 (1+((Int.toNat (IntKind.wrap .i64 ((1:Int)+y14.1)))-1))),())) none))) none) none) none) none) (cond (decide ((0:Int)<(IntKind.wrap .i64 (o15.2.2.2.1-(4:Int))))) (cond (inb (0:Int) o15.2.1) (cond (decide (p0<(0:Int))) (cond (zE (0:Int) (IntKind.wrap .i64 ((1:Int)+y14.1)) 24) (some ((slice (List.set (List.set (List.set (List.set (List.set (List.set o15.2.2.2.2 (o15.1+(Int.toNat (IntKind.wrap .i64 (o15.2.2.2.1-(1:Int))))) (nth .u8 ze (Int.toNat (IntKind.wrap .u32 ((IntKind.wrap .u32 ((Int.tmod (Int.tmod (IntKind.wrap .u32 o15.2.2.1) (10000:Int)) (100:Int))*(2:Int)))+(1:Int)))))) (o15.1+(Int.toNat (IntKind.wrap .i64 (o15.2.2.2.1-(2:Int))))) (nth .u8 ze (Int.toNat (IntKind.wrap .u32 ((Int.tmod (Int.tmod (IntKind.wrap .u32 o15.2.2.1) (10000:Int)) (100:Int))*(2:Int)))))) (o15.1+(Int.toNat (IntKind.wrap .i64 (o15.2.2.2.1-(3:Int))))) (nth .u8 ze (Int.toNat (IntKind.wrap .u32 ((IntKind.wrap .u32 ((IntKind.wrap .u32 (Int.tdiv (Int.tmod (IntKind.wrap .u32 o15.2.2.1) (10000:Int)) (100:Int)))*(2:Int)))+(1:Int)))))) (o15.1+(Int.toNat (IntKind.wrap .i64 (o15.2.2.2.1-(4:Int))))) (nth .u8 ze (Int.toNat (IntKind.wrap .u32 ((IntKind.wrap .u32 (Int.tdiv (Int.tmod (IntKind.wrap .u32 o15.2.2.1) (10000:Int)) (100:Int)))*(2:Int)))))) (o15.1+0) (jc (IntKind.wrap .u32 ((48:Int)+(IntKind.wrap .u32 (Int.tdiv (IntKind.wrap .u32 o15.2.2.1) (10000:Int))))))) 0 (45:UInt8)) 0 (0+((Int.toNat (IntKind.wrap .i64 ((1:Int)+y14.1)))-0))),())) none) (cond (zE (1:Int) (IntKind.wrap .i64 ((1:Int)+y14.1)) 24) (some ((slice (List.set (List.set (List.set (List.set (List.set o15.2.2.2.2 (o15.1+(Int.toNat (IntKind.wrap .i64 (o15.2.2.2.1-(1:Int))))) (nth .u8 ze (Int.toNat (IntKind.wrap .u32 ((IntKind.wrap .u32 ((Int.tmod (Int.tmod (IntKind.wrap .u32 o15.2.2.1) (10000:Int)) (100:Int))*(2:Int)))+(1:Int)))))) (o15.1+(Int.toNat (IntKind.wrap .i64 (o15.2.2.2.1-(2:Int))))) (nth .u8 ze (Int.toNat (IntKind.wrap .u32 ((Int.tmod (Int.tmod (IntKind.wrap .u32 o15.2.2.1) (10000:Int)) (100:Int))*(2:Int)))))) (o15.1+(Int.toNat (IntKind.wrap .i64 (o15.2.2.2.1-(3:Int))))) (nth .u8 ze (Int.toNat (IntKind.wrap .u32 ((IntKind.wrap .u32 ((IntKind.wrap .u32 (Int.tdiv (Int.tmod (IntKind.wrap .u32 o15.2.2.1) (10000:Int)) (100:Int)))*(2:Int)))+(1:Int)))))) (o15.1+(Int.toNat (IntKind.wrap .i64 (o15.2.2.2.1-(4:Int))))) (nth .u8 ze (Int.toNat (IntKind.wrap .u32 ((IntKind.wrap .u32 (Int.tdiv (Int.tmod (IntKind.wrap .u32 o15.2.2.1) (10000:Int)) (100:Int)))*(2:Int)))))) (o15.1+0) (jc (IntKind.wrap .u32 ((48:Int)+(IntKind.wrap .u32 (Int.tdiv (IntKind.wrap .u32 o15.2.2.1) (10000:Int))))))) 1 (1+((Int.toNat (IntKind.wrap .i64 ((1:Int)+y14.1)))-1))),())) none)) none) (cond (decide (p0<(0:Int))) (cond (zE (0:Int) (IntKind.wrap .i64 ((1:Int)+y14.1)) 24) (some ((slice (List.set (List.set (List.set (List.set (List.set o15.2.2.2.2 (o15.1+(Int.toNat (IntKind.wrap .i64 (o15.2.2.2.1-(1:Int))))) (nth .u8 ze (Int.toNat (IntKind.wrap .u32 ((IntKind.wrap .u32 ((Int.tmod (Int.tmod (IntKind.wrap .u32 o15.2.2.1) (10000:Int)) (100:Int))*(2:Int)))+(1:Int)))))) (o15.1+(Int.toNat (IntKind.wrap .i64 (o15.2.2.2.1-(2:Int))))) (nth .u8 ze (Int.toNat (IntKind.wrap .u32 ((Int.tmod (Int.tmod (IntKind.wrap .u32 o15.2.2.1) (10000:Int)) (100:Int))*(2:Int)))))) (o15.1+(Int.toNat (IntKind.wrap .i64 (o15.2.2.2.1-(3:Int))))) (nth .u8 ze (Int.toNat (IntKind.wrap .u32 ((IntKind.wrap .u32 ((IntKind.wrap .u32 (Int.tdiv (Int.tmod (IntKind.wrap .u32 o15.2.2.1) (10000:Int)) (100:Int)))*(2:Int)))+(1:Int)))))) (o15.1+(Int.toNat (IntKind.wrap .i64 (o15.2.2.2.1-(4:Int))))) (nth .u8 ze (Int.toNat (IntKind.wrap .u32 ((IntKind.wrap .u32 (Int.tdiv (Int.tmod (IntKind.wrap .u32 o15.2.2.1) (10000:Int)) (100:Int)))*(2:Int)))))) 0 (45:UInt8)) 0 (0+((Int.toNat (IntKind.wrap .i64 ((1:Int)+y14.1)))-0))),())) none) (cond (zE (1:Int) (IntKind.wrap .i64 ((1:Int)+y14.1)) 24) (some ((slice (List.set (List.set (List.set (List.set o15.2.2.2.2 (o15.1+(Int.toNat (IntKind.wrap .i64 (o15.2.2.2.1-(1:Int))))) (nth .u8 ze (Int.toNat (IntKind.wrap .u32 ((IntKind.wrap .u32 ((Int.tmod (Int.tmod (IntKind.wrap .u32 o15.2.2.1) (10000:Int)) (100:Int))*(2:Int)))+(1:Int)))))) (o15.1+(Int.toNat (IntKind.wrap .i64 (o15.2.2.2.1-(2:Int))))) (nth .u8 ze (Int.toNat (IntKind.wrap .u32 ((Int.tmod (Int.tmod (IntKind.wrap .u32 o15.2.2.1) (10000:Int)) (100:Int))*(2:Int)))))) (o15.1+(Int.toNat (IntKind.wrap .i64 (o15.2.2.2.1-(3:Int))))) (nth .u8 ze (Int.toNat (IntKind.wrap .u32 ((IntKind.wrap .u32 ((IntKind.wrap .u32 (Int.tdiv (Int.tmod (IntKind.wrap .u32 o15.2.2.1) (10000:Int)) (100:Int)))*(2:Int)))+(1:Int)))))) (o15.1+(Int.toNat (IntKind.wrap .i64 (o15.2.2.2.1-(4:Int))))) (nth .u8 ze (Int.toNat (IntKind.wrap .u32 ((IntKind.wrap .u32 (Int.tdiv (Int.tmod (IntKind.wrap .u32 o15.2.2.1) (10000:Int)) (100:Int)))*(2:Int)))))) 1 (1+((Int.toNat (IntKind.wrap .i64 ((1:Int)+y14.1)))-1))),())) none)))) none) none) none) none) none) none) none) none) (cond (decide ((2:Int)<=o15.2.2.2.1)) (cond (inb (IntKind.wrap .u32 ((IntKind.wrap .u32 ((Int.tmod (IntKind.wrap .u32 o15.2.2.1) (100:Int))*(2:Int)))+(1:Int))) 200) (cond (inb (IntKind.wrap .u32 ((Int.tmod (IntKind.wrap .u32 o15.2.2.1) (100:Int))*(2:Int))) 200) (cond (inb (IntKind.wrap .i64 (o15.2.2.2.1-(1:Int))) o15.2.1) (cond (inb (IntKind.wrap .i64 (o15.2.2.2.1-(2:Int))) o15.2.1) (cond (decide ((0:Int)<(IntKind.wrap .i64 (o15.2.2.2.1-(2:Int))))) (cond (inb (0:Int) o15.2.1) (cond (decide (p0<(0:Int))) (cond (zE (0:Int) (IntKind.wrap .i64 ((1:Int)+y14.1)) 24) (some ((slice (List.set (List.set (List.set (List.set o15.2.2.2.2 (o15.1+(Int.toNat (IntKind.wrap .i64 (o15.2.2.2.1-(1:Int))))) (nth .u8 ze (Int.toNat (IntKind.wrap .u32 ((IntKind.wrap .u32 ((Int.tmod (IntKind.wrap .u32 o15.2.2.1) (100:Int))*(2:Int)))+(1:Int)))))) (o15.1+(Int.toNat (IntKind.wrap .i64 (o15.2.2.2.1-(2:Int))))) (nth .u8 ze (Int.toNat (IntKind.wrap .u32 ((Int.tmod (IntKind.wrap .u32 o15.2.2.1) (100:Int))*(2:Int)))))) (o15.1+0) (jc (IntKind.wrap .u32 ((48:Int)+(IntKind.wrap .u32 (Int.tdiv (IntKind.wrap .u32 o15.2.2.1) (100:Int))))))) 0 (45:UInt8)) 0 (0+((Int.toNat (IntKind.wrap .i64 ((1:Int)+y14.1)))-0))),())) none) (cond (zE (1:Int) (IntKind.wrap .i64 ((1:Int)+y14.1)) 24) (some ((slice (List.set (List.set (List.set o15.2.2.2.2 (o15.1+(Int.toNat (IntKind.wrap .i64 (o15.2.2.2.1-(1:Int))))) (nth .u8 ze (Int.toNat (IntKind.wrap .u32 ((IntKind.wrap .u32 ((Int.tmod (IntKind.wrap .u32 o15.2.2.1) (100:Int))*(2:Int)))+(1:Int)))))) (o15.1+(Int.toNat (IntKind.wrap .i64 (o15.2.2.2.1-(2:Int))))) (nth .u8 ze (Int.toNat (IntKind.wrap .u32 ((Int.tmod (IntKind.wrap .u32 o15.2.2.1) (100:Int))*(2:Int)))))) (o15.1+0) (jc (IntKind.wrap .u32 ((48:Int)+(IntKind.wrap .u32 (Int.tdiv (IntKind.wrap .u32 o15.2.2.1) (100:Int))))))) 1 (1+((Int.toNat (IntKind.wrap .i64 ((1:Int)+y14.1)))-1))),())) none)) none) (cond (decide (p0<(0:Int))) (cond (zE (0:Int) (IntKind.wrap .i64 ((1:Int)+y14.1)) 24) (some ((slice (List.set (List.set (List.set o15.2.2.2.2 (o15.1+(Int.toNat (IntKind.wrap .i64 (o15.2.2.2.1-(1:Int))))) (nth .u8 ze (Int.toNat (IntKind.wrap .u32 ((IntKind.wrap .u32 ((Int.tmod (IntKind.wrap .u32 o15.2.2.1) (100:Int))*(2:Int)))+(1:Int)))))) (o15.1+(Int.toNat (IntKind.wrap .i64 (o15.2.2.2.1-(2:Int))))) (nth .u8 ze (Int.toNat (IntKind.wrap .u32 ((Int.tmod (IntKind.wrap .u32 o15.2.2.1) (100:Int))*(2:Int)))))) 0 (45:UInt8)) 0 (0+((Int.toNat (IntKind.wrap .i64 ((1:Int)+y14.1)))-0))),())) none) (cond (zE (1:Int) (IntKind.wrap .i64 ((1:Int)+y14.1)) 24) (some ((slice (List.set (List.set o15.2.2.2.2 (o15.1+(Int.toNat (IntKind.wrap .i64 (o15.2.2.2.1-(1:Int))))) (nth .u8 ze (Int.toNat (IntKind.wrap .u32 ((IntKind.wrap .u32 ((Int.tmod (IntKind.wrap .u32 o15.2.2.1) (100:Int))*(2:Int)))+(1:Int)))))) (o15.1+(Int.toNat (IntKind.wrap .i64 (o15.2.2.2.1-(2:Int))))) (nth .u8 ze (Int.toNat (IntKind.wrap .u32 ((Int.tmod (IntKind.wrap .u32 o15.2.2.1) (100:Int))*(2:Int)))))) 1 (1+((Int.toNat (IntKind.wrap .i64 ((1:Int)+y14.1)))-1))),())) none))) none) none) none) none) (cond (decide ((0:Int)<o15.2.2.2.1)) (cond (inb (0:Int) o15.2.1) (cond (decide (p0<(0:Int))) (cond (zE (0:Int) (IntKind.wrap .i64 ((1:Int)+y14.1)) 24) (some ((slice (List.set (List.set o15.2.2.2.2 (o15.1+0) (jc (IntKind.wrap .u32 ((48:Int)+(IntKind.wrap .u32 o15.2.2.1))))) 0 (45:UInt8)) 0 (0+((Int.toNat (IntKind.wrap .i64 ((1:Int)+y14.1)))-0))),())) none) (cond (zE (1:Int) (IntKind.wrap .i64 ((1:Int)+y14.1)) 24) (some ((slice (List.set o15.2.2.2.2 (o15.1+0) (jc (IntKind.wrap .u32 ((48:Int)+(IntKind.wrap .u32 o15.2.2.1))))) 1 (1+((Int.toNat (IntKind.wrap .i64 ((1:Int)+y14.1)))-1))),())) none)) none) (cond (decide (p0<(0:Int))) (cond (zE (0:Int) (IntKind.wrap .i64 ((1:Int)+y14.1)) 24) (some ((slice (List.set o15.2.2.2.2 0 (45:UInt8)) 0 (0+((Int.toNat (IntKind.wrap .i64 ((1:Int)+y14.1)))-0))),())) none) (cond (zE (1:Int) (IntKind.wrap .i64 ((1:Int)+y14.1)) 24) (some ((slice o15.2.2.2.2 1 (1+((Int.toNat (IntKind.wrap .i64 ((1:Int)+y14.1)))-1))),())) none)))))) none))))
def qp(N:Nat)(p0:Int):Option ((List UInt8)×Unit):=
 (Option.bind (zA N p0) fun y1=>(some (y1.1,())))
def jV(N:Nat){R:Type}(x13:List Int)(x14:Int)(x15:Int)(x16:List UInt8)(rec_:(List Int)->(Int)->(Int)->(List UInt8)->Option R)(o0:(List UInt8)->Option R):Option R:=
 (cond (decide (x15<x14)) (cond (inb x15 (List.length x13)) (Option.bind (qp N (nth (.int .i64) x13 (Int.toNat x15))) fun y19=>(cond (decide (List.length ([32]:List UInt8)+List.length y19.1<4611686018427387904)) (cond (Nat.blt ((List.length x16)+(List.length (([32]:List UInt8)++y19.1))) qw) (rec_ x13 x14 (IntKind.wrap .i64 (x15+(1:Int))) (x16++(([32]:List UInt8)++y19.1))) none) none)) none) (o0 x16))
def zK(N:Nat):Nat->(List Int)->(Int)->(Int)->(List UInt8)->Option ((List UInt8))
 |0,_,_,_,_=>none
 |m+1,x13,x14,x15,x16=>jV N x13 x14 x15 x16 (zK N m) (fun v0=>some v0)
def zz(N:Nat)(p0:(List Int)):Option ((List UInt8)×Unit):=
 (cond (decide ((0:Int)<(((List.length p0):Nat):Int))) (cond (inb (0:Int) (List.length p0)) (Option.bind (qp N (nth (.int .i64) p0 0)) fun y1=>(cond (decide (List.length ([32]:List UInt8)+List.length y1.1<4611686018427387904)) (cond (Nat.blt (List.length (([32]:List UInt8)++y1.1)) qw) (Option.bind (zK N N p0 (((List.length p0):Nat):Int) (1:Int) (([32]:List UInt8)++y1.1)) fun o20=>(cond (Nat.blt 0 (List.length o20)) (cond (decide ((((List.length o20):Nat):Int)=(((List.length o20):Nat):Int))&&(Nat.blt 0 (List.length o20)&&Nat.blt (List.length o20) qw)) (some (o20,())) none) none)) none) none)) none) (some (([]:List UInt8),())))
def jT(N:Nat){R:Type}(x8:List UInt8)(x9:Int)(x10:Int)(x11:List UInt8)(rec_:(List UInt8)->(Int)->(Int)->(List UInt8)->Option R)(o0:(List UInt8)->Option R):Option R:=
 (cond (decide (x10<x9)) (cond (inb x10 (List.length x8)) (cond (inb ((UInt8.toNat (zkY (nth .u8 x8 (Int.toNat x10)) (4:Int)):Nat):Int) 16) (cond (inb ((UInt8.toNat ((nth .u8 x8 (Int.toNat x10)) &&& (15:UInt8)):Nat):Int) 16) (cond (Nat.blt ((List.length x11)+2) qw) (rec_ x8 x9 (IntKind.wrap .i64 (x10+(1:Int))) (x11++([(nth .u8 zjd (Int.toNat ((UInt8.toNat (zkY (nth .u8 x8 (Int.toNat x10)) (4:Int)):Nat):Int))),(nth .u8 zjd (Int.toNat ((UInt8.toNat ((nth .u8 x8 (Int.toNat x10)) &&& (15:UInt8)):Nat):Int)))]:List UInt8))) none) none) none) none) (o0 x11))
def zJ(N:Nat):Nat->(List UInt8)->(Int)->(Int)->(List UInt8)->Option ((List UInt8))
 |0,_,_,_,_=>none
 |m+1,x8,x9,x10,x11=>jT N x8 x9 x10 x11 (zJ N m) (fun v0=>some v0)
def qF(N:Nat)(p0:(List UInt8)):Option ((List UInt8)×Unit):=
 (Option.bind (jn N p0) fun y1=>(cond y1.2.1 (cond (decide (List.length ([62,32]:List UInt8)+List.length y1.1<4611686018427387904)) (cond (decide (List.length (([62,32]:List UInt8)++y1.1)+List.length ([10]:List UInt8)<4611686018427387904)) (some (((([62,32]:List UInt8)++y1.1)++([10]:List UInt8)),())) none) none) (Option.bind (zJ N N p0 (((List.length p0):Nat):Int) (0:Int) ([(61:UInt8),(32:UInt8)]:List UInt8)) fun o13=>(cond (decide (List.length o13+List.length ([10]:List UInt8)<4611686018427387904)) (some ((o13++([10]:List UInt8)),())) none))))
def jy(N:Nat){R:Type}(x28:List Int)(x29:List (List UInt8))(x30:Int)(x31:Nat)(x32:Nat)(x33:Int)(x34:Int)(x35:List UInt8)(x36:List (List UInt8))(rec_:(List Int)->(List (List UInt8))->(Int)->(Nat)->(Nat)->(Int)->(Int)->(List UInt8)->(List (List UInt8))->Option R)(o0:(List Int)->(List (List UInt8))->(Int)->(List UInt8)->(List (List UInt8))->Option R):Option R:=
 (cond (decide (x34<x33)) (cond (inb x34 x32) (Option.bind (qF N (nth (.slc .u8) x36 (x31+(Int.toNat x34)))) fun y39=>(cond (Nat.blt ((List.length x35)+(List.length y39.1)) qw) (rec_ x28 x29 x30 x31 x32 x33 (IntKind.wrap .i64 (x34+(1:Int))) (x35++y39.1) x36) none)) none) (o0 x28 x29 x30 x35 x36))
def zr(N:Nat):Nat->(List Int)->(List (List UInt8))->(Int)->(Nat)->(Nat)->(Int)->(Int)->(List UInt8)->(List (List UInt8))->Option ((List Int)×(List (List UInt8))×(Int)×(List UInt8)×(List (List UInt8)))
 |0,_,_,_,_,_,_,_,_,_=>none
 |m+1,x28,x29,x30,x31,x32,x33,x34,x35,x36=>jy N x28 x29 x30 x31 x32 x33 x34 x35 x36 (zr N m) (fun v0 v1 v2 v3 v4=>some (v0,v1,v2,v3,v4))
def jg(N:Nat){R:Type}(x380:List Int)(x381:List (List UInt8))(x382:Int)(x383:Int)(x384:Nat)(x385:Nat)(x386:Int)(x387:Int)(x388:List UInt8)(x389:List (List UInt8))(rec_:(List Int)->(List (List UInt8))->(Int)->(Int)->(Nat)->(Nat)->(Int)->(Int)->(List UInt8)->(List (List UInt8))->Option R)(o0:(List Int)->(List (List UInt8))->(Int)->(Int)->(List UInt8)->(List (List UInt8))->Option R):Option R:=
 (cond (decide (x387<x386)) (cond (inb x387 x385) (Option.bind (qF N (nth (.slc .u8) x389 (x384+(Int.toNat x387)))) fun y392=>(cond (Nat.blt ((List.length x388)+(List.length y392.1)) qw) (rec_ x380 x381 x382 x383 x384 x385 x386 (IntKind.wrap .i64 (x387+(1:Int))) (x388++y392.1) x389) none)) none) (o0 x380 x381 x382 x383 x388 x389))
def zp(N:Nat):Nat->(List Int)->(List (List UInt8))->(Int)->(Int)->(Nat)->(Nat)->(Int)->(Int)->(List UInt8)->(List (List UInt8))->Option ((List Int)×(List (List UInt8))×(Int)×(Int)×(List UInt8)×(List (List UInt8)))
 |0,_,_,_,_,_,_,_,_,_,_=>none
 |m+1,x380,x381,x382,x383,x384,x385,x386,x387,x388,x389=>jg N x380 x381 x382 x383 x384 x385 x386 x387 x388 x389 (zp N m) (fun v0 v1 v2 v3 v4 v5=>some (v0,v1,v2,v3,v4,v5))
def je(N:Nat){R:Type}(x265:List Int)(x266:List (List UInt8))(x267:Int)(x268:Int)(x269:List UInt8)(rec_:(List Int)->(List (List UInt8))->(Int)->(Int)->(List UInt8)->Option R)(o0:(List Int)->(List UInt8)->Option R):Option R:=
 (cond (decide (x268<x267)) (cond (inb x268 (List.length x266)) (Option.bind (zz N ([x268]:List Int)) fun y350=>(cond (decide (List.length ([99,108,105,101,110,116]:List UInt8)+List.length y350.1<4611686018427387904)) (cond (decide (List.length (([99,108,105,101,110,116]:List UInt8)++y350.1)+List.length ([10]:List UInt8)<4611686018427387904)) (cond (Nat.blt ((List.length x269)+(List.length ((([99,108,105,101,110,116]:List UInt8)++y350.1)++([10]:List UInt8)))) qw) (cond ((Nat.ble (List.length (nth (.sl .u8) x266 (Int.toNat x268))) jG)&&true) (cond (inb (IntKind.wrap .i64 ((((List.length (Go.Lib.split (nth (.sl .u8) x266 (Int.toNat x268)) ([(13:UInt8),(10:UInt8)]:List UInt8))):Nat):Int)-(1:Int))) (List.length (Go.Lib.split (nth (.sl .u8) x266 (Int.toNat x268)) ([(13:UInt8),(10:UInt8)]:List UInt8)))) (cond ((((List.length (nth (.slc .u8) (Go.Lib.split (nth (.sl .u8) x266 (Int.toNat x268)) ([(13:UInt8),(10:UInt8)]:List UInt8)) (Int.toNat (IntKind.wrap .i64 ((((List.length (Go.Lib.split (nth (.sl .u8) x266 (Int.toNat x268)) ([(13:UInt8),(10:UInt8)]:List UInt8))):Nat):Int)-(1:Int)))))):Nat):Int)==(0:Int)) (cond ((zE (0:Int) (IntKind.wrap .i64 ((((List.length (Go.Lib.split (nth (.sl .u8) x266 (Int.toNat x268)) ([(13:UInt8),(10:UInt8)]:List UInt8))):Nat):Int)-(1:Int))) (List.length (Go.Lib.split (nth (.sl .u8) x266 (Int.toNat x268)) ([(13:UInt8),(10:UInt8)]:List UInt8))))&&true) (Option.bind (zp N N x265 x266 x267 x268 0 ((Int.toNat (IntKind.wrap .i64 ((((List.length (Go.Lib.split (nth (.sl .u8) x266 (Int.toNat x268)) ([(13:UInt8),(10:UInt8)]:List UInt8))):Nat):Int)-(1:Int))))-0) ((((Int.toNat (IntKind.wrap .i64 ((((List.length (Go.Lib.split (nth (.sl .u8) x266 (Int.toNat x268)) ([(13:UInt8),(10:UInt8)]:List UInt8))):Nat):Int)-(1:Int))))-0):Nat):Int) (0:Int) (x269++((([99,108,105,101,110,116]:List UInt8)++y350.1)++([10]:List UInt8))) (Go.Lib.split (nth (.sl .u8) x266 (Int.toNat x268)) ([(13:UInt8),(10:UInt8)]:List UInt8))) fun o393=>(rec_ o393.1 o393.2.1 o393.2.2.1 (IntKind.wrap .i64 (o393.2.2.2.1+(1:Int))) o393.2.2.2.2.1)) none) (Option.bind (zp N N x265 x266 x267 x268 0 (List.length (Go.Lib.split (nth (.sl .u8) x266 (Int.toNat x268)) ([(13:UInt8),(10:UInt8)]:List UInt8))) (((List.length (Go.Lib.split (nth (.sl .u8) x266 (Int.toNat x268)) ([(13:UInt8),(10:UInt8)]:List UInt8))):Nat):Int) (0:Int) (x269++((([99,108,105,101,110,116]:List UInt8)++y350.1)++([10]:List UInt8))) (Go.Lib.split (nth (.sl .u8) x266 (Int.toNat x268)) ([(13:UInt8),(10:UInt8)]:List UInt8))) fun o394=>(rec_ o394.1 o394.2.1 o394.2.2.1 (IntKind.wrap .i64 (o394.2.2.2.1+(1:Int))) o394.2.2.2.2.1))) none) none) none) none) none)) none) (o0 x265 x269))
def zi(N:Nat):Nat->(List Int)->(List (List UInt8))->(Int)->(Int)->(List UInt8)->Option ((List Int)×(List UInt8))
 |0,_,_,_,_,_=>none
 |m+1,x265,x266,x267,x268,x269=>je N x265 x266 x267 x268 x269 (zi N m) (fun v0 v1=>some (v0,v1))
def qT(N:Nat)(p0:(List (List UInt8)))(p1:(List Int)):Option ((List UInt8)×Unit):=
 (cond (decide ((0:Int)<(((List.length p0):Nat):Int))) (cond (inb (0:Int) (List.length p0)) (Option.bind (zz N ([(0:Int)]:List Int)) fun y1=>(cond (decide (List.length ([99,108,105,101,110,116]:List UInt8)+List.length y1.1<4611686018427387904)) (cond (decide (List.length (([99,108,105,101,110,116]:List UInt8)++y1.1)+List.length ([10]:List UInt8)<4611686018427387904)) (cond (Nat.blt (List.length ((([99,108,105,101,110,116]:List UInt8)++y1.1)++([10]:List UInt8))) qw) (cond ((Nat.ble (List.length (nth (.sl .u8) p0 0)) jG)&&true) (cond (inb (IntKind.wrap .i64 ((((List.length (Go.Lib.split (nth (.sl .u8) p0 0) ([(13:UInt8),(10:UInt8)]:List UInt8))):Nat):Int)-(1:Int))) (List.length (Go.Lib.split (nth (.sl .u8) p0 0) ([(13:UInt8),(10:UInt8)]:List UInt8)))) (cond ((((List.length (nth (.slc .u8) (Go.Lib.split (nth (.sl .u8) p0 0) ([(13:UInt8),(10:UInt8)]:List UInt8)) (Int.toNat (IntKind.wrap .i64 ((((List.length (Go.Lib.split (nth (.sl .u8) p0 0) ([(13:UInt8),(10:UInt8)]:List UInt8))):Nat):Int)-(1:Int)))))):Nat):Int)==(0:Int)) (cond ((zE (0:Int) (IntKind.wrap .i64 ((((List.length (Go.Lib.split (nth (.sl .u8) p0 0) ([(13:UInt8),(10:UInt8)]:List UInt8))):Nat):Int)-(1:Int))) (List.length (Go.Lib.split (nth (.sl .u8) p0 0) ([(13:UInt8),(10:UInt8)]:List UInt8))))&&true) (Option.bind (zr N N p1 p0 (((List.length p0):Nat):Int) 0 ((Int.toNat (IntKind.wrap .i64 ((((List.length (Go.Lib.split (nth (.sl .u8) p0 0) ([(13:UInt8),(10:UInt8)]:List UInt8))):Nat):Int)-(1:Int))))-0) ((((Int.toNat (IntKind.wrap .i64 ((((List.length (Go.Lib.split (nth (.sl .u8) p0 0) ([(13:UInt8),(10:UInt8)]:List UInt8))):Nat):Int)-(1:Int))))-0):Nat):Int) (0:Int) ((([99,108,105,101,110,116]:List UInt8)++y1.1)++([10]:List UInt8)) (Go.Lib.split (nth (.sl .u8) p0 0) ([(13:UInt8),(10:UInt8)]:List UInt8))) fun o40=>(Option.bind (zi N N o40.1 o40.2.1 o40.2.2.1 (1:Int) o40.2.2.2.1) fun o395=>(cond (Nat.blt 0 (List.length o395.2)) (cond (decide ((((List.length o395.2):Nat):Int)=(((List.length o395.2):Nat):Int))&&(Nat.blt 0 (List.length o395.2)&&Nat.blt (List.length o395.2) qw)) (cond (decide (List.length o395.2+List.length ([111,114,100,101,114]:List UInt8)<4611686018427387904)) (Option.bind (zz N o395.1) fun y396=>(cond (decide (List.length (o395.2++([111,114,100,101,114]:List UInt8))+List.length y396.1<4611686018427387904)) (cond (decide (List.length ((o395.2++([111,114,100,101,114]:List UInt8))++y396.1)+List.length ([10]:List UInt8)<4611686018427387904)) (some ((((o395.2++([111,114,100,101,114]:List UInt8))++y396.1)++([10]:List UInt8)),())) none) none)) none) none) none))) none) (Option.bind (zr N N p1 p0 (((List.length p0):Nat):Int) 0 (List.length (Go.Lib.split (nth (.sl .u8) p0 0) ([(13:UInt8),(10:UInt8)]:List UInt8))) (((List.length (Go.Lib.split (nth (.sl .u8) p0 0) ([(13:UInt8),(10:UInt8)]:List UInt8))):Nat):Int) (0:Int) ((([99,108,105,101,110,116]:List UInt8)++y1.1)++([10]:List UInt8)) (Go.Lib.split (nth (.sl .u8) p0 0) ([(13:UInt8),(10:UInt8)]:List UInt8))) fun o397=>(Option.bind (zi N N o397.1 o397.2.1 o397.2.2.1 (1:Int) o397.2.2.2.1) fun o398=>(cond (Nat.blt 0 (List.length o398.2)) (cond (decide ((((List.length o398.2):Nat):Int)=(((List.length o398.2):Nat):Int))&&(Nat.blt 0 (List.length o398.2)&&Nat.blt (List.length o398.2) qw)) (cond (decide (List.length o398.2+List.length ([111,114,100,101,114]:List UInt8)<4611686018427387904)) (Option.bind (zz N o398.1) fun y399=>(cond (decide (List.length (o398.2++([111,114,100,101,114]:List UInt8))+List.length y399.1<4611686018427387904)) (cond (decide (List.length ((o398.2++([111,114,100,101,114]:List UInt8))++y399.1)+List.length ([10]:List UInt8)<4611686018427387904)) (some ((((o398.2++([111,114,100,101,114]:List UInt8))++y399.1)++([10]:List UInt8)),())) none) none)) none) none) none)))) none) none) none) none) none)) none) (Option.bind (zz N p1) fun y400=>(cond (decide (List.length ([111,114,100,101,114]:List UInt8)+List.length y400.1<4611686018427387904)) (cond (decide (List.length (([111,114,100,101,114]:List UInt8)++y400.1)+List.length ([10]:List UInt8)<4611686018427387904)) (some (((([111,114,100,101,114]:List UInt8)++y400.1)++([10]:List UInt8)),())) none) none)))
def wi(N:Nat)(p0:Int):Option ((List UInt8)×Unit):=
 (Option.bind (qR N (IntKind.wrap .u32 p0)) fun y1=>(some (y1.1,())))
def kK(N:Nat){R:Type}(x2:List UInt8)(x3:List UInt8)(x4:Int)(rec_:(List UInt8)->(List UInt8)->(Int)->Option R)(o0:(List UInt8)->Option R):Option R:=
 (cond (decide (x4<(((List.length x2):Nat):Int))) (cond (inb x4 (List.length x2)) (cond (inb x4 (List.length x2)) (cond (zE ((UInt8.toNat ((nth .u8 x2 (Int.toNat x4))/(16:UInt8)):Nat):Int) ((UInt8.toNat (((nth .u8 x2 (Int.toNat x4))/(16:UInt8))+(1:UInt8)):Nat):Int) 16) (cond (decide (List.length x3+List.length (slice ([48,49,50,51,52,53,54,55,56,57,97,98,99,100,101,102]:List UInt8) (Int.toNat ((UInt8.toNat ((nth .u8 x2 (Int.toNat x4))/(16:UInt8)):Nat):Int)) (Int.toNat ((UInt8.toNat (((nth .u8 x2 (Int.toNat x4))/(16:UInt8))+(1:UInt8)):Nat):Int)))<4611686018427387904)) (cond (inb x4 (List.length x2)) (cond (inb x4 (List.length x2)) (cond (zE ((UInt8.toNat ((nth .u8 x2 (Int.toNat x4)) % (16:UInt8)):Nat):Int) ((UInt8.toNat (((nth .u8 x2 (Int.toNat x4)) % (16:UInt8))+(1:UInt8)):Nat):Int) 16) (cond (decide (List.length (x3++(slice ([48,49,50,51,52,53,54,55,56,57,97,98,99,100,101,102]:List UInt8) (Int.toNat ((UInt8.toNat ((nth .u8 x2 (Int.toNat x4))/(16:UInt8)):Nat):Int)) (Int.toNat ((UInt8.toNat (((nth .u8 x2 (Int.toNat x4))/(16:UInt8))+(1:UInt8)):Nat):Int))))+List.length (slice ([48,49,50,51,52,53,54,55,56,57,97,98,99,100,101,102]:List UInt8) (Int.toNat ((UInt8.toNat ((nth .u8 x2 (Int.toNat x4)) % (16:UInt8)):Nat):Int)) (Int.toNat ((UInt8.toNat (((nth .u8 x2 (Int.toNat x4)) % (16:UInt8))+(1:UInt8)):Nat):Int)))<4611686018427387904)) (rec_ x2 ((x3++(slice ([48,49,50,51,52,53,54,55,56,57,97,98,99,100,101,102]:List UInt8) (Int.toNat ((UInt8.toNat ((nth .u8 x2 (Int.toNat x4))/(16:UInt8)):Nat):Int)) (Int.toNat ((UInt8.toNat (((nth .u8 x2 (Int.toNat x4))/(16:UInt8))+(1:UInt8)):Nat):Int))))++(slice ([48,49,50,51,52,53,54,55,56,57,97,98,99,100,101,102]:List UInt8) (Int.toNat ((UInt8.toNat ((nth .u8 x2 (Int.toNat x4)) % (16:UInt8)):Nat):Int)) (Int.toNat ((UInt8.toNat (((nth .u8 x2 (Int.toNat x4)) % (16:UInt8))+(1:UInt8)):Nat):Int)))) (IntKind.wrap .i64 (x4+(1:Int)))) none) none) none) none) none) none) none) none) (o0 x3))
def qe(N:Nat):Nat->(List UInt8)->(List UInt8)->(Int)->Option ((List UInt8))
 |0,_,_,_=>none
 |m+1,x2,x3,x4=>kK N x2 x3 x4 (qe N m) (fun v0=>some v0)
def zac(N:Nat)(p0:(List UInt8)):Option ((List UInt8)×Unit):=
 (Option.bind (qe N N p0 ([]:List UInt8) (0:Int)) fun o6=>(some (o6,())))
def qS(N:Nat)(p0:(List UInt8)):Option ((List UInt8)×Unit):=
 (Option.bind (jo N p0) fun y1=>(cond y1.2.1 (cond (decide (List.length ([62,32]:List UInt8)+List.length y1.1<4611686018427387904)) (cond (decide (List.length (([62,32]:List UInt8)++y1.1)+List.length ([10]:List UInt8)<4611686018427387904)) (some (((([62,32]:List UInt8)++y1.1)++([10]:List UInt8)),())) none) none) (Option.bind (zac N p0) fun y2=>(cond (decide (List.length ([61,32]:List UInt8)+List.length y2.1<4611686018427387904)) (cond (decide (List.length (([61,32]:List UInt8)++y2.1)+List.length ([10]:List UInt8)<4611686018427387904)) (some (((([61,32]:List UInt8)++y2.1)++([10]:List UInt8)),())) none) none))))
def jP(N:Nat){R:Type}(x46:List (List UInt8))(x47:List Int)(x48:List UInt8)(x49:Int)(x50:Int)(x51:Int)(rec_:(List (List UInt8))->(List Int)->(List UInt8)->(Int)->(Int)->(Int)->Option R)(o0:(List (List UInt8))->(List Int)->(List UInt8)->(Int)->(Int)->Option R):Option R:=
 (cond (inb x49 (List.length x46)) (cond (decide ((IntKind.wrap .i64 (x51+(1:Int)))<(((List.length (nth (.sl .u8) x46 (Int.toNat x49))):Nat):Int))) (cond (inb x49 (List.length x46)) (cond (inb x51 (List.length (nth (.sl .u8) x46 (Int.toNat x49)))) (cond ((nth .u8 (nth (.sl .u8) x46 (Int.toNat x49)) (Int.toNat x51))==(13:UInt8)) (cond (inb x49 (List.length x46)) (cond (inb (IntKind.wrap .i64 (x51+(1:Int))) (List.length (nth (.sl .u8) x46 (Int.toNat x49)))) (cond ((nth .u8 (nth (.sl .u8) x46 (Int.toNat x49)) (Int.toNat (IntKind.wrap .i64 (x51+(1:Int)))))==(10:UInt8)) (cond (inb x49 (List.length x46)) (cond ((zE x50 x51 (List.length (nth (.sl .u8) x46 (Int.toNat x49))))&&true) (Option.bind (qS N (slice (nth (.sl .u8) x46 (Int.toNat x49)) (Int.toNat x50) (Int.toNat x51))) fun y54=>(cond (decide (List.length x48+List.length y54.1<4611686018427387904)) (rec_ x46 x47 (x48++y54.1) x49 (IntKind.wrap .i64 (x51+(2:Int))) (IntKind.wrap .i64 ((IntKind.wrap .i64 (x51+(1:Int)))+(1:Int)))) none)) none) none) (rec_ x46 x47 x48 x49 x50 (IntKind.wrap .i64 (x51+(1:Int))))) none) none) (rec_ x46 x47 x48 x49 x50 (IntKind.wrap .i64 (x51+(1:Int))))) none) none) (o0 x46 x47 x48 x49 x50)) none)
def zB(N:Nat):Nat->(List (List UInt8))->(List Int)->(List UInt8)->(Int)->(Int)->(Int)->Option ((List (List UInt8))×(List Int)×(List UInt8)×(Int)×(Int))
 |0,_,_,_,_,_,_=>none
 |m+1,x46,x47,x48,x49,x50,x51=>jP N x46 x47 x48 x49 x50 x51 (zB N m) (fun v0 v1 v2 v3 v4=>some (v0,v1,v2,v3,v4))
def jN(N:Nat){R:Type}(x18:List (List UInt8))(x19:List Int)(x20:List UInt8)(x21:Int)(rec_:(List (List UInt8))->(List Int)->(List UInt8)->(Int)->Option R)(o0:(List Int)->(List UInt8)->Option R):Option R:=
 (cond (decide (x21<(((List.length x18):Nat):Int))) (cond (decide (List.length x20+List.length ([99,108,105,101,110,116,32]:List UInt8)<4611686018427387904)) (Option.bind (wi N x21) fun y40=>(cond (decide (List.length (x20++([99,108,105,101,110,116,32]:List UInt8))+List.length y40.1<4611686018427387904)) (cond (decide (List.length ((x20++([99,108,105,101,110,116,32]:List UInt8))++y40.1)+List.length ([10]:List UInt8)<4611686018427387904)) (Option.bind (zB N N x18 x19 (((x20++([99,108,105,101,110,116,32]:List UInt8))++y40.1)++([10]:List UInt8)) x21 (0:Int) (0:Int)) fun o55=>(cond (inb o55.2.2.2.1 (List.length o55.1)) (cond (decide (o55.2.2.2.2<(((List.length (nth (.sl .u8) o55.1 (Int.toNat o55.2.2.2.1))):Nat):Int))) (cond (inb o55.2.2.2.1 (List.length o55.1)) (cond (znG o55.2.2.2.2 (nth (.sl .u8) o55.1 (Int.toNat o55.2.2.2.1))&&true) (Option.bind (qS N (zpe (nth (.sl .u8) o55.1 (Int.toNat o55.2.2.2.1)) (Int.toNat o55.2.2.2.2))) fun y56=>(cond (decide (List.length o55.2.2.1+List.length y56.1<4611686018427387904)) (rec_ o55.1 o55.2.1 (o55.2.2.1++y56.1) (IntKind.wrap .i64 (o55.2.2.2.1+(1:Int)))) none)) none) none) (rec_ o55.1 o55.2.1 o55.2.2.1 (IntKind.wrap .i64 (o55.2.2.2.1+(1:Int))))) none)) none) none)) none) (o0 x19 x20))
def zH(N:Nat):Nat->(List (List UInt8))->(List Int)->(List UInt8)->(Int)->Option ((List Int)×(List UInt8))
 |0,_,_,_,_=>none
 |m+1,x18,x19,x20,x21=>jN N x18 x19 x20 x21 (zH N m) (fun v0 v1=>some (v0,v1))
def jR(N:Nat){R:Type}(x61:List Int)(x62:List UInt8)(x63:Int)(rec_:(List Int)->(List UInt8)->(Int)->Option R)(o0:(List UInt8)->Option R):Option R:=
 (cond (decide (x63<(((List.length x61):Nat):Int))) (cond (decide (List.length x62+List.length ([32]:List UInt8)<4611686018427387904)) (cond (inb x63 (List.length x61)) (Option.bind (wi N (nth (.int .i64) x61 (Int.toNat x63))) fun y66=>(cond (decide (List.length (x62++([32]:List UInt8))+List.length y66.1<4611686018427387904)) (rec_ x61 ((x62++([32]:List UInt8))++y66.1) (IntKind.wrap .i64 (x63+(1:Int)))) none)) none) none) (o0 x62))
def zI(N:Nat):Nat->(List Int)->(List UInt8)->(Int)->Option ((List UInt8))
 |0,_,_,_=>none
 |m+1,x61,x62,x63=>jR N x61 x62 x63 (zI N m) (fun v0=>some v0)
def jq(N:Nat)(p0:(List (List UInt8)))(p1:(List Int)):Option ((List UInt8)×Unit):=
 (Option.bind (zH N N p0 p1 ([]:List UInt8) (0:Int)) fun o57=>(cond (decide (List.length o57.2+List.length ([111,114,100,101,114]:List UInt8)<4611686018427387904)) (Option.bind (zI N N o57.1 (o57.2++([111,114,100,101,114]:List UInt8)) (0:Int)) fun o67=>(cond (decide (List.length o67+List.length ([10]:List UInt8)<4611686018427387904)) (some ((o67++([10]:List UInt8)),())) none)) none))
def qm(N:Nat){R:Type}(x7:List (List UInt8))(x8:List Int)(x9:Int)(x10:List (List UInt8))(x11:Int)(x12:Int)(rec_:(List (List UInt8))->(List Int)->(Int)->(List (List UInt8))->(Int)->(Int)->Option R)(o0:(List (List UInt8))->(List Int)->(Int)->Option R):Option R:=
 (cond (decide (x12<x11)) (cond (inb x12 (List.length x10)) (rec_ x7 x8 (IntKind.wrap .i64 (x9+(((List.length (nth (.sl .u8) x10 (Int.toNat x12))):Nat):Int))) x10 x11 (IntKind.wrap .i64 (x12+(1:Int)))) none) (o0 x7 x8 x9))
def zm(N:Nat):Nat->(List (List UInt8))->(List Int)->(Int)->(List (List UInt8))->(Int)->(Int)->Option ((List (List UInt8))×(List Int)×(Int))
 |0,_,_,_,_,_,_=>none
 |m+1,x7,x8,x9,x10,x11,x12=>qm N x7 x8 x9 x10 x11 x12 (zm N m) (fun v0 v1 v2=>some (v0,v1,v2))
def qo(N:Nat){R:Type}(x27:List (List UInt8))(x28:List Int)(x29:Int)(x30:Int)(x31:List Int)(rec_:(List (List UInt8))->(List Int)->(Int)->(Int)->(List Int)->Option R)(o0:(List (List UInt8))->(List Int)->Option R):Option R:=
 (cond (decide (x30<x29)) (cond (inb x30 (List.length x28)) (cond (Nat.blt ((List.length x31)+1) qw) (rec_ x27 x28 x29 (IntKind.wrap .i64 (x30+(1:Int))) (x31++([(IntKind.wrap .i64 (nth (.int .u16) x28 (Int.toNat x30)))]:List Int))) none) none) (o0 x27 x31))
def zn(N:Nat):Nat->(List (List UInt8))->(List Int)->(Int)->(Int)->(List Int)->Option ((List (List UInt8))×(List Int))
 |0,_,_,_,_,_=>none
 |m+1,x27,x28,x29,x30,x31=>qo N x27 x28 x29 x30 x31 (zn N m) (fun v0 v1=>some (v0,v1))
def zy(N:Nat)(p0:(List (List UInt8)))(p1:(List Int)):Option (Bool×Unit):=
 (cond (decide ((20:Int)<(((List.length p0):Nat):Int))) (Option.bind (some (true,())) fun y1=>(some (y1.1,()))) (cond (decide ((100:Int)<(((List.length p1):Nat):Int))) (Option.bind (some (true,())) fun y2=>(some (y2.1,()))) (Option.bind (zm N N p0 p1 (0:Int) p0 (((List.length p0):Nat):Int) (0:Int)) fun o14=>(cond (decide ((4000:Int)<o14.2.2)) (Option.bind (some (true,())) fun y15=>(some (y15.1,()))) (Option.bind (zn N N o14.1 o14.2.1 (((List.length o14.2.1):Nat):Int) (0:Int) ([]:List Int)) fun o33=>(Option.bind (qT N o33.1 o33.2) fun y34=>(Option.bind (some (true,())) fun y35=>(cond y35.1 (Option.bind (jq N o33.1 o33.2) fun y36=>(cond (y34.1==y36.1) (cond (Nat.ble (List.length y34.1) jG) (some ((((Go.Lib.count y34.1 ([10,99,108,105,101,110,116,32]:List UInt8):Nat):Int)==(if(0:Int) > (IntKind.wrap .i64 ((((List.length o33.1):Nat):Int)-(1:Int))) then(0:Int) else(IntKind.wrap .i64 ((((List.length o33.1):Nat):Int)-(1:Int))))),())) none) (some (false,())))) (some (false,()))))))))))
end Go.Proofs.Model
namespace Go.Sx
open Go Go.Gx Go.Mx
theorem wri{x:Int}(h:-9223372036854775808<=x)(h':x<=9223372036854775807):IntKind.wrap .i64 x=x:=by
 simp [IntKind.wrap,IntKind.bits,IntKind.signed];omega
theorem zdk{i n:Nat}(h:i<n):inb (i:Int) n=true:=by
 unfold inb;simp;omega
theorem zjr{a b n:Nat}(h:a<=b)(h':b<=n):zE (a:Int) (b:Int) n=true:=by
 unfold zE;simp;omega
theorem zol{u:U}{l:List (El u)}{i:Nat}(h:i<l.length):nth u l i=l[i]:=by
 unfold nth;rw[List.getD_eq_getElem?_getD,List.getElem?_eq_getElem h];rfl
theorem drop_one{α:Type}{l:List α}{i:Nat}(h:i<l.length):l.drop i=l[i]::l.drop (i+1):=List.drop_eq_getElem_cons h
theorem zrm{i n:Nat}(h:i<n):decide ((i:Int)<(n:Int))=true:=by simp;omega
theorem zrl{i n:Nat}(h:¬ i<n):decide ((i:Int)<(n:Int))=false:=by simp;omega
section
variable {u v:U} (hS:∀ a b:El u,ziT u a b=true↔a=b)
include hS
end
end Go.Sx
namespace Go.Proofs.Model
open Go Go.Gx Go.Mx Go.Sx
theorem zmZ{p:UInt8->Bool}(h:((List.range 256).all fun n=>p (UInt8.ofNat n))=true)(c:UInt8):p c=true:=by
 rw[List.all_eq_true] at h
 have:=h c.toNat (List.mem_range.2 c.toNat_lt)
 rwa [UInt8.ofNat_toNat] at this
def bOf(o:Option (Bool×Unit)):Bool:=match o with
 |some (b,_)=>b
 |none=>false
def kb(c:UInt8):Bool:=bOf (jw 0 c)
def isB(o:Option (Bool×Unit))(b:Bool):Bool:=match o with
 |some (x,_)=>x==b
 |none=>false
theorem zm8{o:Option (Bool×Unit)}{b:Bool}(h:isB o b=true):o=some (b,()):=by
 unfold isB at h
 split at h
 ·rename_i x u;rw[beq_iff_eq] at h;subst h;rfl
 ·cases h
theorem zq8(N:Nat)(c:UInt8):kg N c=some (kb c,()):=zm8 (zmZ (p:=fun c=>isB (kg 0 c) (kb c)) (by kernel_rfl) c)
theorem zq9(N:Nat)(c:UInt8):jw N c=some (kb c,()):=zm8 (zmZ (p:=fun c=>isB (jw 0 c) (kb c)) (by kernel_rfl) c)
theorem zlM{n:Nat}(h:n<=200000):Nat.blt n qw=true:=by
 rw[Nat.blt_eq];unfold qw;omega
def dgt(n k:Nat):UInt8:=UInt8.ofNat (48+n/k % 10)
theorem zlm(n:Nat):Int.tmod ((n:Nat):Int) 100=((n % 100:Nat):Int):=rfl
theorem zln(n:Nat):Int.tmod ((n:Nat):Int) 10000=((n % 10000:Nat):Int):=rfl
theorem zlo(n:Nat):Int.tmod ((n:Nat):Int) 100000000=((n % 100000000:Nat):Int):=rfl
theorem zli(n:Nat):Int.tdiv ((n:Nat):Int) 100=((n/100:Nat):Int):=rfl
theorem zlj(n:Nat):Int.tdiv ((n:Nat):Int) 10000=((n/10000:Nat):Int):=rfl
theorem zlk(n:Nat):Int.tdiv ((n:Nat):Int) 100000000=((n/100000000:Nat):Int):=rfl
theorem zoh(n:Nat):((n:Nat):Int)*2=((n*2:Nat):Int):=rfl
theorem kS(n:Nat):((n:Nat):Int)+1=((n+1:Nat):Int):=rfl
theorem zjj(n:Nat):(48:Int)+((n:Nat):Int)=((48+n:Nat):Int):=rfl
theorem zo1{n:Nat}(h:n<4294967296):IntKind.wrap .u32 ((n:Nat):Int)=((n:Nat):Int):=by rw[IntKind.wrap_u32];omega
theorem zo2{n:Nat}(h:n<18446744073709551616):IntKind.wrap .u64 ((n:Nat):Int)=((n:Nat):Int):=by rw[IntKind.wrap_u64];omega
theorem zeQ{k:Nat}(h:k<100):nth .u8 ze (k*2)=UInt8.ofNat (48+k/10):=by
 have key:((List.range 100).all fun k=>nth .u8 ze (k*2)==UInt8.ofNat (48+k/10))=true:=by kernel_rfl
 rw[List.all_eq_true] at key
 exact beq_iff_eq.1 (key k (List.mem_range.2 h))
theorem zho{k:Nat}(h:k<100):nth .u8 ze (k*2+1)=UInt8.ofNat (48+k % 10):=by
 have key:((List.range 100).all fun k=>nth .u8 ze (k*2+1)==UInt8.ofNat (48+k % 10))=true:=by kernel_rfl
 rw[List.all_eq_true] at key
 exact beq_iff_eq.1 (key k (List.mem_range.2 h))
theorem zcw{n:Nat}(h:n<256):jc ((n:Nat):Int)=UInt8.ofNat n:=by
 unfold jc
 rw[IntKind.wrap_u8,show(((n:Nat):Int) % 256).toNat=n by omega]
theorem zdz{n a b:Nat}(h:a=n/b % 10):UInt8.ofNat (48+a)=dgt n b:=by rw[h];rfl
theorem zjD(n m:Nat):Int.fdiv ((n:Nat):Int) ((m:Nat):Int)=((n/m:Nat):Int):=by
 rw[Int.fdiv_eq_ediv_of_nonneg _ (by omega)];rfl
theorem p8:((2:Int) ^ (min (Int.toNat (8:Int)) (IntKind.bits .u64)))=((256:Nat):Int):=rfl
theorem p16:((2:Int) ^ (min (Int.toNat (16:Int)) (IntKind.bits .u64)))=((65536:Nat):Int):=rfl
theorem p18:((2:Int) ^ (min (Int.toNat (18:Int)) (IntKind.bits .i64)))=((262144:Nat):Int):=rfl
def tL(k:Nat):Nat:=(nth .u8 zlH k).toNat
theorem zlf{k:Nat}(h:k<256)(h0:0<k):2 ^ (tL k-1)<=k/\k<2 ^ tL k/\1<=tL k/\tL k<=8:=by
 have key:((List.range 256).all fun k=>k==0||(Nat.ble (2 ^ (tL k-1)) k&&(Nat.blt k (2 ^ tL k)&&(Nat.ble 1 (tL k)&&Nat.ble (tL k) 8))))=true:=by kernel_rfl
 rw[List.all_eq_true] at key
 have:=key k (List.mem_range.2 h)
 simp only[Bool.or_eq_true,Bool.and_eq_true,beq_iff_eq,Nat.blt_eq] at this
 rcases this with h1|⟨h1,h2,h3,h4⟩
 ·omega
 ·exact⟨Nat.le_of_ble_eq_true h1,h2,Nat.le_of_ble_eq_true h3,Nat.le_of_ble_eq_true h4⟩
theorem u8n{k:Nat}(h:k<256):UInt8.toNat (jc ((k:Nat):Int))=k:=by
 rw[zcw h,UInt8.toNat_ofNat'];omega
theorem zqV(N n:Nat)(h0:0<n)(h:n<4294967296):∃ L:Nat,1<=L/\L<=32/\2 ^ (L-1)<=n/\n<2 ^ L/\qx N ((n:Nat):Int)=some ((L:Int),()):=by
 have c1:decide ((4294967296:Int)<=((n:Nat):Int))=false:=by simp;omega
 unfold qx
 simp only[c1,cond_false,p8,p16,zjD]
 have fin:∀ (b k:Nat),k<256->0<k->b<=24->2 ^ b*k<=n->n<2 ^ b*(k+1)->∃ L:Nat,1<=L/\L<=32/\2 ^ (L-1)<=n/\n<2 ^ L/\(some (((b+tL k:Nat):Int),()):Option (Int×Unit))=some ((L:Int),()):=by
  intro b k hk hk0 hb h1 h2
  obtain⟨q1,q2,q3,q4⟩:=zlf hk hk0
  refine⟨b+tL k,by omega,by omega,?_,?_,rfl⟩
  ·rw[show b+tL k-1=b+(tL k-1) by omega,Nat.pow_add]
   exact Nat.le_trans (Nat.mul_le_mul_left _ q1) h1
  ·rw[Nat.pow_add]
   exact Nat.lt_of_lt_of_le h2 (Nat.mul_le_mul_left _ q2)
 have val:∀ (b k:Nat),k<256->b<=24->0<k->IntKind.wrap .i64 (((b:Nat):Int)+IntKind.wrap .i64 ((UInt8.toNat (nth .u8 zlH (Int.toNat ((UInt8.toNat (jc ((k:Nat):Int)):Nat):Int))):Nat):Int))=((b+tL k:Nat):Int):=by
  intro b k hk hb hk0
  have:=zlf hk hk0
  rw[u8n hk,Int.toNat_natCast]
  show IntKind.wrap .i64 (((b:Nat):Int)+IntKind.wrap .i64 ((tL k:Nat):Int))=_
  rw[wri (x:=((tL k:Nat):Int)) (by omega) (by omega),wri (by omega) (by omega)];omega
 by_cases a1:65536<=n
 ·have c2:decide ((65536:Int)<=((n:Nat):Int))=true:=by simp;omega
  simp only[c2,cond_true]
  by_cases a2:256<=n/65536
  ·have c3:decide ((256:Int)<=((n/65536:Nat):Int))=true:=by simp only[decide_eq_true_eq];omega
   have hk:n/65536/256<256:=by omega
   simp only[c3,cond_true]
   rw[u8n hk,zdk hk,cond_true,<- u8n hk]
   have:=val 24 (n/65536/256) hk (by omega) (by omega)
   rw[u8n hk] at this |-
   rw[show((24:Nat):Int)=(24:Int) from rfl] at this
   rw[this]
   exact fin 24 _ hk (by omega) (by omega) (by omega) (by omega)
  ·have c3:decide ((256:Int)<=((n/65536:Nat):Int))=false:=by simp only[decide_eq_false_iff_not];omega
   have hk:n/65536<256:=by omega
   simp only[c3,cond_false]
   rw[u8n hk,zdk hk,cond_true]
   have:=val 16 (n/65536) hk (by omega) (by omega)
   rw[u8n hk,show((16:Nat):Int)=(16:Int) from rfl] at this
   rw[this]
   exact fin 16 _ hk (by omega) (by omega) (by omega) (by omega)
 ·have c2:decide ((65536:Int)<=((n:Nat):Int))=false:=by simp;omega
  simp only[c2,cond_false]
  by_cases a2:256<=n
  ·have c3:decide ((256:Int)<=((n:Nat):Int))=true:=by simp;omega
   have hk:n/256<256:=by omega
   simp only[c3,cond_true]
   rw[u8n hk,zdk hk,cond_true]
   have:=val 8 (n/256) hk (by omega) (by omega)
   rw[u8n hk,show((8:Nat):Int)=(8:Int) from rfl] at this
   rw[this]
   exact fin 8 _ hk (by omega) (by omega) (by omega) (by omega)
  ·have c3:decide ((256:Int)<=((n:Nat):Int))=false:=by simp;omega
   have hk:n<256:=by omega
   simp only[c3,cond_false]
   rw[u8n hk,zdk hk,cond_true]
   have:=val 0 n hk (by omega) (by omega)
   rw[u8n hk,show((0:Nat):Int)=(0:Int) from rfl] at this
   rw[this]
   exact fin 0 _ hk (by omega) (by omega) (by omega) (by omega)
def zq1:List Int:=[1,10,100,1000,10000,100000,1000000,10000000,100000000,1000000000,10000000000,100000000000,1000000000000,10000000000000,100000000000000,1000000000000000,10000000000000000,100000000000000000,1000000000000000000,10000000000000000000]
def pw(k:Nat):Int:=nth (.int .u64) zq1 k
theorem digits(N n:Nat)(h0:0<n)(h:n<4294967296):∃ L:Nat,1<=L/\L<=32/\2 ^ (L-1)<=n/\n<2 ^ L/\zf N ((n:Nat):Int)=some (((L*78913/262144+(if pw (L*78913/262144)<=(n:Int) then 1 else 0):Nat):Int),()):=by
 obtain⟨L,h1,h2,h3,h4,h5⟩:=zqV N n h0 h
 refine⟨L,h1,h2,h3,h4,?_⟩
 unfold zf qL qK
 simp only[h5,Option.bind_some,p18]
 rw[wri (by omega) (by omega),show((L:Nat):Int)*78913=((L*78913:Nat):Int) from rfl,zjD]
 have ht:L*78913/262144<20:=by omega
 simp only[zdk ht,Bool.and_self,cond_true,Int.toNat_natCast]
 show Option.bind (cond (decide (pw (L*78913/262144)<=(n:Int))) (some ((1:Int),())) (some ((0:Int),()))) _=_
 by_cases hc:pw (L*78913/262144)<=(n:Int)
 ·rw[decide_eq_true hc,if_pos hc]
  simp only[cond_true,Option.bind_some]
  rw[wri (by omega) (by omega)];rfl
 ·rw[decide_eq_false hc,if_neg hc]
  simp only[cond_false,Option.bind_some]
  rw[wri (by omega) (by omega)];rfl
theorem zqY(N n d:Nat)(h0:100<=n)(h:n<4294967296)(h1:3<=d)(h2:d<=10)(h3:10 ^ (d-1)<=n)(h4:n<10 ^ d):zf N ((n:Nat):Int)=some (((d:Nat):Int),()):=by
 obtain⟨L,q1,q2,q3,q4,q5⟩:=digits N n (by omega) h
 rw[q5]
 clear q5
 have hL:L=1\/L=2\/L=3\/L=4\/L=5\/L=6\/L=7\/L=8\/L=9\/L=10\/L=11\/L=12\/L=13\/L=14\/L=15\/L=16\/L=17\/L=18\/L=19\/L=20\/L=21\/L=22\/L=23\/L=24\/L=25\/L=26\/L=27\/L=28\/L=29\/L=30\/L=31\/L=32:=by omega
 have hd:d=3\/d=4\/d=5\/d=6\/d=7\/d=8\/d=9\/d=10:=by omega
 have fin:L*78913/262144+(if pw (L*78913/262144)<=(n:Int) then 1 else 0)=d:=by
  rcases hd with rfl|rfl|rfl|rfl|rfl|rfl|rfl|rfl<;>simp only[Nat.reduceSub,Nat.reducePow] at h3 h4
  all_goals
   rcases hL with rfl|rfl|rfl|rfl|rfl|rfl|rfl|rfl|rfl|rfl|rfl|rfl|rfl|rfl|rfl|rfl|rfl|rfl|rfl|rfl|rfl|rfl|rfl|rfl|rfl|rfl|rfl|rfl|rfl|rfl|rfl|rfl<;>simp only[Nat.reduceSub,Nat.reducePow] at q3 q4<;>first
    |(exfalso;omega;done)
    |(simp only[Nat.reduceMul,Nat.reduceDiv,show pw 2=100 from rfl,show pw 3=1000 from rfl,show pw 4=10000 from rfl,show pw 5=100000 from rfl,show pw 6=1000000 from rfl,show pw 7=10000000 from rfl,show pw 8=100000000 from rfl,show pw 9=1000000000 from rfl];split<;>omega)
 rw[fin]
def zag:Nat->Nat->List UInt8
 |0,_=>[]
 |f+1,n=>if n<10 then[UInt8.ofNat (48+n)] else zag f (n/10)++[UInt8.ofNat (48+n % 10)]
def dec(n:Nat):List UInt8:=zag 10 n
theorem zrw(n:Nat)(h1:100<=n)(h2:n<1000):dec n=[dgt n 100,dgt n 10,dgt n 1]:=by
 unfold dec
 rw[show zag 10 (n)=zag 9 (n/10)++[UInt8.ofNat (48+n % 10)] from if_neg (by omega)]
 rw[show zag 9 (n/10)=zag 8 (n/10/10)++[UInt8.ofNat (48+n/10 % 10)] from if_neg (by omega)]
 rw[show zag 8 (n/10/10)=[UInt8.ofNat (48+n/10/10)] from if_pos (by omega)]
 simp only[List.cons_append,List.nil_append,List.cons.injEq,and_true]
 refine⟨?_,?_,?_⟩<;>exact zdz (by omega)
theorem zrx(n:Nat)(h1:1000<=n)(h2:n<10000):dec n=[dgt n 1000,dgt n 100,dgt n 10,dgt n 1]:=by
 unfold dec
 rw[show zag 10 (n)=zag 9 (n/10)++[UInt8.ofNat (48+n % 10)] from if_neg (by omega)]
 rw[show zag 9 (n/10)=zag 8 (n/10/10)++[UInt8.ofNat (48+n/10 % 10)] from if_neg (by omega)]
 rw[show zag 8 (n/10/10)=zag 7 (n/10/10/10)++[UInt8.ofNat (48+n/10/10 % 10)] from if_neg (by omega)]
 rw[show zag 7 (n/10/10/10)=[UInt8.ofNat (48+n/10/10/10)] from if_pos (by omega)]
 simp only[List.cons_append,List.nil_append,List.cons.injEq,and_true]
 refine⟨?_,?_,?_,?_⟩<;>exact zdz (by omega)
theorem zry(n:Nat)(h1:10000<=n)(h2:n<100000):dec n=[dgt n 10000,dgt n 1000,dgt n 100,dgt n 10,dgt n 1]:=by
 unfold dec
 rw[show zag 10 (n)=zag 9 (n/10)++[UInt8.ofNat (48+n % 10)] from if_neg (by omega)]
 rw[show zag 9 (n/10)=zag 8 (n/10/10)++[UInt8.ofNat (48+n/10 % 10)] from if_neg (by omega)]
 rw[show zag 8 (n/10/10)=zag 7 (n/10/10/10)++[UInt8.ofNat (48+n/10/10 % 10)] from if_neg (by omega)]
 rw[show zag 7 (n/10/10/10)=zag 6 (n/10/10/10/10)++[UInt8.ofNat (48+n/10/10/10 % 10)] from if_neg (by omega)]
 rw[show zag 6 (n/10/10/10/10)=[UInt8.ofNat (48+n/10/10/10/10)] from if_pos (by omega)]
 simp only[List.cons_append,List.nil_append,List.cons.injEq,and_true]
 refine⟨?_,?_,?_,?_,?_⟩<;>exact zdz (by omega)
theorem zk1(N:Nat){n:Nat}(h:n<100):qU N ((n:Nat):Int)=some (dec n,()):=by
 have key:((List.range 100).all fun n=>decide (qU 0 ((n:Nat):Int)=some (dec n,())))=true:=by kernel_rfl
 rw[List.all_eq_true] at key
 exact of_decide_eq_true (key n (List.mem_range.2 h))
theorem zhG:∀ f n,(zag f n).length<=f
 |0,n=>by simp [zag]
 |f+1,n=>by
  unfold zag
  split
  ·simp
  ·have:=zhG f (n/10);simp;omega
theorem zfZ{k:Nat}(h:k<10):slice ([48,49,50,51,52,53,54,55,56,57]:List UInt8) k (k+1)=[UInt8.ofNat (48+k)]:=by
 have key:((List.range 10).all fun k=>slice ([48,49,50,51,52,53,54,55,56,57]:List UInt8) k (k+1)==[UInt8.ofNat (48+k)])=true:=by kernel_rfl
 rw[List.all_eq_true] at key
 exact beq_iff_eq.1 (key k (List.mem_range.2 h))
theorem zqn(n:Nat):Int.tmod ((n:Nat):Int) 10=((n % 10:Nat):Int):=rfl
theorem zqm(n:Nat):Int.tdiv ((n:Nat):Int) 10=((n/10:Nat):Int):=rfl
theorem zpJ(N:Nat):∀ (f m n:Nat) (acc:List UInt8),n<10 ^ f->n<4294967296->0<f->f<=m->acc.length+f<=1000->∃ (x:Nat) (ys:List UInt8),zG N m ((n:Nat):Int) acc=some (((x:Nat):Int),ys)/\x<10/\UInt8.ofNat (48+x)::ys=zag f n++acc/\ys.length<=1000
 |0,m,n,acc,h,h',h0,hm,hl=>by omega
 |f+1,0,n,acc,h,h',h0,hm,hl=>by omega
 |f+1,m+1,n,acc,h,h',h0,hm,hl=>by
  unfold zG jL
  by_cases hn:n<10
  ·have c:decide ((10:Int)<=((n:Nat):Int))=false:=by simp;omega
   simp only[c,cond_false]
   exact⟨n,acc,rfl,hn,by unfold zag;rw[if_pos hn];rfl,by omega⟩
  ·have c:decide ((10:Int)<=((n:Nat):Int))=true:=by simp;omega
   have hk:n % 10<10:=by omega
   have hb:=zjr (a:=n % 10) (b:=n % 10+1) (n:=10) (by omega) (by omega)
   simp (disch:=omega) only[c,cond_true,zqn,zqm,kS,zo1,hb,Int.toNat_natCast,zfZ]
   have c2:decide (List.length [UInt8.ofNat (48+n % 10)]+List.length acc<4611686018427387904)=true:=by simp;omega
   simp only[c2,cond_true]
   have hpos:0<f:=by
    cases f with
    |zero=>simp at h;omega
    |succ f=>omega
   have hlt:n/10<10 ^ f:=by rw[Nat.pow_succ] at h;omega
   obtain⟨x,ys,q1,q2,q3,q4⟩:=zpJ N f m (n/10) ([UInt8.ofNat (48+n % 10)]++acc) hlt (by omega) hpos (by omega) (by simp;omega)
   exact⟨x,ys,q1,q2,by
                rw[q3];conv=>rhs;unfold zag;rw[if_neg hn]
                simp,q4⟩
theorem znL(N n:Nat)(hN:10<=N)(h:n<4294967296):qR N ((n:Nat):Int)=some (dec n,()):=by
 obtain⟨x,ys,q1,q2,q3,q4⟩:=zpJ N 10 N n [] (by omega) h (by omega) (by omega) (by simp)
 unfold qR
 have hb:=zjr (a:=x) (b:=x+1) (n:=10) (by omega) (by omega)
 simp (disch:=omega) only[q1,Option.bind_some,kS,zo1,hb,cond_true,Int.toNat_natCast,zfZ]
 have c2:decide (List.length [UInt8.ofNat (48+x)]+List.length ys<4611686018427387904)=true:=by simp;omega
 rw[List.append_nil] at q3
 simp only[c2,cond_true,List.cons_append,List.nil_append,q3];rfl






abbrev Tok:=Int×(List UInt8×Int)




def kc(t:Tok):UInt8:=nth .u8 [101,115,40,41,119,113,108] t.1.toNat












theorem zlN{a b:Nat}(h:a+b<4611686018427387904):decide (a+b<4611686018427387904)=true:=decide_eq_true h
def zig(c:UInt8):List UInt8:=if c=34\/c=92 then[92,c] else[c]
def esc(s:List UInt8):List UInt8:=s.flatMap zig
theorem zeb:∀ s:List UInt8,(esc s).length<=2*s.length
 | []=>by simp [esc]
 |c::s=>by
  have:=zeb s
  unfold esc at this |-
  rw[List.flatMap_cons,List.length_append]
  have h1:(zig c).length<=2:=by unfold zig;split<;>simp
  simp only[List.length_cons];omega
def zb9(s:List UInt8):Option (List UInt8):=if s.all kb=true then some ([34]++esc s++[34]) else none
def prU{α β:Type}:α ⊕ β->Option β
 |.inl _=>none
 |.inr o=>some o
theorem zcp(N:Nat){s:List UInt8}(hs:s.length<=20000):∀ (m i:Nat) (out:List UInt8),i<=s.length->s.length<m+i->out.length<=2*i+1 ->
  ∃ o,zF N m s ((s.length:Nat):Int) (i:Int) out=some o/\prU o=if(s.drop i).all kb=true then some (out++esc (s.drop i)) else none
 |0,i,out,hi,h,ho=>by omega
 |m+1,i,out,hi,h,ho=>by
  unfold zF jJ
  by_cases hl:i<s.length
  ·have hw:IntKind.wrap .i64 ((i:Int)+1)=((i+1:Nat):Int):=by rw[wri (by omega) (by omega)];omega
   have hn:nth .u8 s (Int.toNat (i:Int))=s[i]:=by rw[Int.toNat_natCast];exact zol (u:=.u8) hl
   simp only[zrm hl,cond_true,zdk hl,hn,hw,zq8,Option.bind_some]
   rw[drop_one hl,List.all_cons]
   cases ht:kb s[i] with
   |false=>exact⟨_,rfl,by simp [prU]⟩
   |true=>
    simp only[Bool.not_true,cond_false,Bool.true_and]
    have b1:Nat.blt (out.length+1) qw=true:=zlM (by omega)
    have b2:Nat.blt ((out++[(92:UInt8)]).length+1) qw=true:=zlM (by simp;omega)
    have he:esc (s[i]::s.drop (i+1))=zig s[i]++esc (s.drop (i+1)):=by unfold esc;rw[List.flatMap_cons]
    rw[he]
    by_cases c1:s[i]=34
    ·obtain⟨o,h1,h2⟩:=zcp N hs m (i+1) (out++[92]++[s[i]]) (by omega) (by omega) (by simp;omega)
     refine⟨o,?_,?_⟩
     ·simp only[c1,beq_self_eq_true,cond_true,b1,b2] at h1 |-;exact h1
     ·rw[h2];simp [zig,c1]
    ·by_cases c2:s[i]=92
     ·obtain⟨o,h1,h2⟩:=zcp N hs m (i+1) (out++[92]++[s[i]]) (by omega) (by omega) (by simp;omega)
      refine⟨o,?_,?_⟩
      ·have:((92:UInt8)==34)=false:=rfl
       simp only[c2,this,beq_self_eq_true,cond_true,cond_false,b1,b2] at h1 |-;exact h1
      ·rw[h2];simp [zig,c2]
     ·obtain⟨o,h1,h2⟩:=zcp N hs m (i+1) (out++[s[i]]) (by omega) (by omega) (by simp;omega)
      refine⟨o,?_,?_⟩
      ·simp only[beq_eq_false_iff_ne.2 c1,beq_eq_false_iff_ne.2 c2,cond_false,b1,cond_true];exact h1
      ·rw[h2];simp [zig,c1,c2]
  ·have hd:s.drop i=[]:=List.drop_of_length_le (by omega)
   simp only[zrl hl,cond_false]
   rw[hd]
   exact⟨_,rfl,by simp [prU,esc]⟩
theorem zjT{s:List UInt8}(hs:s.length<=20000):jn 200000 s=some (match zb9 s with|some q=>(q,true,())|none=>([],false,())):=by
 unfold jn zb9
 obtain⟨o,h1,h2⟩:=zcp 200000 hs 200000 0 [34] (Nat.zero_le _) (by omega) (by simp)
 rw[show((0:Nat):Int)=0 from rfl] at h1
 rw[h1,Option.bind_some]
 rw[List.drop_zero] at h2
 have hl:=zeb s
 by_cases ha:s.all kb=true
 ·rw[if_pos ha] at h2 |-
  cases o with
  |inl=>cases h2
  |inr q=>
   cases h2
   simp only[zbG]
   have b1:Nat.blt (([34]++esc s:List UInt8).length+1) qw=true:=zlM (by simp;omega)
   have b2:Nat.blt 0 ([34]++esc s++[34]:List UInt8).length=true:=by simp [Nat.blt_eq]
   have b3:Nat.blt ([34]++esc s++[34]:List UInt8).length qw=true:=zlM (by simp;omega)
   rw[b1,b2,b3]
   simp
 ·rw[if_neg ha] at h2 |-
  cases o with
  |inl=>rfl
  |inr q=>cases h2
theorem zej(N:Nat){s:List UInt8}(hs:s.length<=20000):∀ (m i:Nat) (out:List UInt8),i<=s.length->s.length<m+i->out.length<=2*i+1 ->
  ∃ o,zP N m s out (i:Int)=some o/\prU o=if(s.drop i).all kb=true then some (out++esc (s.drop i)) else none
 |0,i,out,hi,h,ho=>by omega
 |m+1,i,out,hi,h,ho=>by
  unfold zP wh
  by_cases hl:i<s.length
  ·have hw:IntKind.wrap .i64 ((i:Int)+1)=((i+1:Nat):Int):=by rw[wri (by omega) (by omega)];omega
   have hn:nth .u8 s (Int.toNat (i:Int))=s[i]:=by rw[Int.toNat_natCast];exact zol (u:=.u8) hl
   have hn':nth .u8 s i=s[i]:=zol (u:=.u8) hl
   have hsl:slice s i (i+1)=[s[i]]:=by
    unfold slice;rw[Nat.add_sub_cancel_left,drop_one hl];rfl
   simp only[zrm hl,cond_true,zdk hl,hn,hw,zq9,Option.bind_some,zjr (show i<=i+1 by omega) (show i+1<=s.length by omega),Bool.and_true,Int.toNat_natCast,hsl,hn']
   rw[drop_one hl,List.all_cons]
   cases ht:kb s[i] with
   |false=>exact⟨.inl (),rfl,by simp [prU]⟩
   |true=>
    simp only[Bool.not_true,cond_false,Bool.true_and]
    have he:esc (s[i]::s.drop (i+1))=zig s[i]++esc (s.drop (i+1)):=by unfold esc;rw[List.flatMap_cons]
    rw[he]
    by_cases c1:s[i]=34
    ·obtain⟨o,h1,h2⟩:=zej N hs m (i+1) (out++[92]++[s[i]]) (by omega) (by omega) (by simp;omega)
     refine⟨o,?_,?_⟩
     ·simp only[c1,beq_self_eq_true,cond_true] at h1 |-
      simp (disch:=(simp only[List.length_append,List.length_cons,List.length_nil];omega)) only[zlN,cond_true]
      exact h1
     ·rw[h2];simp [zig,c1]
    ·by_cases c2:s[i]=92
     ·obtain⟨o,h1,h2⟩:=zej N hs m (i+1) (out++[92]++[s[i]]) (by omega) (by omega) (by simp;omega)
      refine⟨o,?_,?_⟩
      ·have:((92:UInt8)==34)=false:=rfl
       simp only[c2,this,beq_self_eq_true,cond_true,cond_false] at h1 |-
       simp (disch:=(simp only[List.length_append,List.length_cons,List.length_nil];omega)) only[zlN,cond_true]
       exact h1
      ·rw[h2];simp [zig,c2]
     ·obtain⟨o,h1,h2⟩:=zej N hs m (i+1) (out++[s[i]]) (by omega) (by omega) (by simp;omega)
      refine⟨o,?_,?_⟩
      ·simp only[beq_eq_false_iff_ne.2 c1,beq_eq_false_iff_ne.2 c2,cond_false,cond_true]
       simp (disch:=(simp only[List.length_append,List.length_cons,List.length_nil];omega)) only[zlN,cond_true]
       exact h1
      ·rw[h2];simp [zig,c1,c2]
  ·have hd:s.drop i=[]:=List.drop_of_length_le (by omega)
   simp only[zrl hl,cond_false]
   rw[hd]
   exact⟨_,rfl,by simp [prU,esc]⟩
theorem zlV{s:List UInt8}(hs:s.length<=20000):jo 200000 s=some (match zb9 s with|some q=>(q,true,())|none=>([],false,())):=by
 unfold jo zb9
 obtain⟨o,h1,h2⟩:=zej 200000 hs 200000 0 [34] (Nat.zero_le _) (by omega) (by simp)
 rw[show((0:Nat):Int)=0 from rfl] at h1
 rw[h1,Option.bind_some]
 rw[List.drop_zero] at h2
 have hl:=zeb s
 by_cases ha:s.all kb=true
 ·rw[if_pos ha] at h2 |-
  cases o with
  |inl=>cases h2
  |inr q=>
   cases h2
   simp only[zbG]
   rw[zlN (by simp;omega)]
   rfl
 ·rw[if_neg ha] at h2 |-
  cases o with
  |inl=>rfl
  |inr q=>cases h2
theorem zcQ{s q:List UInt8}(h:zb9 s=some q):q.length<=2*s.length+2:=by
 unfold zb9 at h
 split at h
 ·cases h;have:=zeb s;simp;omega
 ·cases h
theorem zrH(N n:Nat)(hN:10<=N)(h1:100<=n)(h2:n<1000)(hd:zf N ((n:Nat):Int)=some ((3:Int),())):zA N ((n:Nat):Int)=some ([dgt n 100,dgt n 10,dgt n 1],()):=by
 obtain⟨m,hm2⟩:∃ m,N=m+2:=⟨N-2,by omega⟩
 have hl:zd N N=zd N (m+2):=congrArg _ hm2
 unfold zA
 rw[decide_eq_true (show(0:Int)<=((n:Nat):Int) by omega),cond_true,decide_eq_false (show ¬ ((n:Nat):Int)<100 by omega),cond_false,decide_eq_false (show ¬ ((n:Nat):Int)<0 by omega),cond_false]
 simp only[zo2 (show n<18446744073709551616 by omega)]
 simp only[hd,hl,Option.bind_some,cond_false,cond_true,show zE (1:Int) (IntKind.wrap .i64 ((1:Int)+(3:Int))) 24=true from rfl,show((Int.toNat (IntKind.wrap .i64 ((1:Int)+(3:Int))))-1:Nat)=3 from rfl]
 unfold zd z8
 simp (disch:=omega) only[zo1,zo2,zlm,zln,zlo,zli,zlj,zlk,zoh,kS,zjj,Int.toNat_natCast,zdk,zeQ,zho,zcw,cond_true,cond_false,Option.bind_some,
  show inb (0:Int) 3=true from rfl,show inb (1:Int) 3=true from rfl,show inb (2:Int) 3=true from rfl,show(1+Int.toNat (0:Int):Nat)=1 from rfl,show(1+Int.toNat (1:Int):Nat)=2 from rfl,show(1+Int.toNat (2:Int):Nat)=3 from rfl,show(1+0:Nat)=1 from rfl,show(1+3:Nat)=4 from rfl,show decide ((8:Int)<=((3:Nat):Int))=false from rfl,show decide ((4:Int)<=((3:Nat):Int))=false from rfl,show decide ((2:Int)<=((3:Nat):Int))=true from rfl,show IntKind.wrap .i64 (((3:Nat):Int)-(1:Int))=(2:Int) from rfl,show IntKind.wrap .i64 (((3:Nat):Int)-(2:Int))=(1:Int) from rfl,show IntKind.wrap .i64 (((3:Nat):Int)-(3:Int))=(0:Int) from rfl,show decide ((2:Int)<=(0:Int))=false from rfl,show decide ((0:Int)<(0:Int))=false from rfl,show decide ((2:Int)<=(1:Int))=false from rfl,show decide ((0:Int)<(1:Int))=true from rfl,show decide ((2:Int)<=(2:Int))=true from rfl,show decide ((0:Int)<(2:Int))=true from rfl]
 simp only[zoR,slice,List.set_cons_succ,List.set_cons_zero,List.drop_zero,List.drop_succ_cons,List.take_succ_cons,List.take_zero,Nat.sub_zero,Option.some.injEq,Prod.mk.injEq,List.cons.injEq,and_true]
 refine⟨?_,?_,?_⟩<;>exact zdz (by omega)
theorem zrI(N n:Nat)(hN:10<=N)(h1:1000<=n)(h2:n<10000)(hd:zf N ((n:Nat):Int)=some ((4:Int),())):zA N ((n:Nat):Int)=some ([dgt n 1000,dgt n 100,dgt n 10,dgt n 1],()):=by
 obtain⟨m,hm2⟩:∃ m,N=m+2:=⟨N-2,by omega⟩
 have hl:zd N N=zd N (m+2):=congrArg _ hm2
 unfold zA
 rw[decide_eq_true (show(0:Int)<=((n:Nat):Int) by omega),cond_true,decide_eq_false (show ¬ ((n:Nat):Int)<100 by omega),cond_false,decide_eq_false (show ¬ ((n:Nat):Int)<0 by omega),cond_false]
 simp only[zo2 (show n<18446744073709551616 by omega)]
 simp only[hd,hl,Option.bind_some,cond_false,cond_true,show zE (1:Int) (IntKind.wrap .i64 ((1:Int)+(4:Int))) 24=true from rfl,show((Int.toNat (IntKind.wrap .i64 ((1:Int)+(4:Int))))-1:Nat)=4 from rfl]
 unfold zd z8
 simp (disch:=omega) only[zo1,zo2,zlm,zln,zlo,zli,zlj,zlk,zoh,kS,zjj,Int.toNat_natCast,zdk,zeQ,zho,zcw,cond_true,cond_false,Option.bind_some,
  show inb (0:Int) 4=true from rfl,show inb (1:Int) 4=true from rfl,show inb (2:Int) 4=true from rfl,show inb (3:Int) 4=true from rfl,show(1+Int.toNat (0:Int):Nat)=1 from rfl,show(1+Int.toNat (1:Int):Nat)=2 from rfl,show(1+Int.toNat (2:Int):Nat)=3 from rfl,show(1+Int.toNat (3:Int):Nat)=4 from rfl,show(1+0:Nat)=1 from rfl,show(1+4:Nat)=5 from rfl,show decide ((8:Int)<=((4:Nat):Int))=false from rfl,show decide ((4:Int)<=((4:Nat):Int))=true from rfl,show decide ((2:Int)<=((4:Nat):Int))=true from rfl,show IntKind.wrap .i64 (((4:Nat):Int)-(1:Int))=(3:Int) from rfl,show IntKind.wrap .i64 (((4:Nat):Int)-(2:Int))=(2:Int) from rfl,show IntKind.wrap .i64 (((4:Nat):Int)-(3:Int))=(1:Int) from rfl,show IntKind.wrap .i64 (((4:Nat):Int)-(4:Int))=(0:Int) from rfl,show decide ((2:Int)<=(0:Int))=false from rfl,show decide ((0:Int)<(0:Int))=false from rfl,show decide ((2:Int)<=(1:Int))=false from rfl,show decide ((0:Int)<(1:Int))=true from rfl,show decide ((2:Int)<=(2:Int))=true from rfl,show decide ((0:Int)<(2:Int))=true from rfl,show decide ((2:Int)<=(3:Int))=true from rfl,show decide ((0:Int)<(3:Int))=true from rfl]
 simp only[zoR,slice,List.set_cons_succ,List.set_cons_zero,List.drop_zero,List.drop_succ_cons,List.take_succ_cons,List.take_zero,Nat.sub_zero,Option.some.injEq,Prod.mk.injEq,List.cons.injEq,and_true]
 refine⟨?_,?_,?_,?_⟩<;>exact zdz (by omega)
theorem zrJ(N n:Nat)(hN:10<=N)(h1:10000<=n)(h2:n<100000)(hd:zf N ((n:Nat):Int)=some ((5:Int),())):zA N ((n:Nat):Int)=some ([dgt n 10000,dgt n 1000,dgt n 100,dgt n 10,dgt n 1],()):=by
 obtain⟨m,hm2⟩:∃ m,N=m+2:=⟨N-2,by omega⟩
 have hl:zd N N=zd N (m+2):=congrArg _ hm2
 unfold zA
 rw[decide_eq_true (show(0:Int)<=((n:Nat):Int) by omega),cond_true,decide_eq_false (show ¬ ((n:Nat):Int)<100 by omega),cond_false,decide_eq_false (show ¬ ((n:Nat):Int)<0 by omega),cond_false]
 simp only[zo2 (show n<18446744073709551616 by omega)]
 simp only[hd,hl,Option.bind_some,cond_false,cond_true,show zE (1:Int) (IntKind.wrap .i64 ((1:Int)+(5:Int))) 24=true from rfl,show((Int.toNat (IntKind.wrap .i64 ((1:Int)+(5:Int))))-1:Nat)=5 from rfl]
 unfold zd z8
 simp (disch:=omega) only[zo1,zo2,zlm,zln,zlo,zli,zlj,zlk,zoh,kS,zjj,Int.toNat_natCast,zdk,zeQ,zho,zcw,cond_true,cond_false,Option.bind_some,
  show inb (0:Int) 5=true from rfl,show inb (1:Int) 5=true from rfl,show inb (2:Int) 5=true from rfl,show inb (3:Int) 5=true from rfl,show inb (4:Int) 5=true from rfl,show(1+Int.toNat (0:Int):Nat)=1 from rfl,show(1+Int.toNat (1:Int):Nat)=2 from rfl,show(1+Int.toNat (2:Int):Nat)=3 from rfl,show(1+Int.toNat (3:Int):Nat)=4 from rfl,show(1+Int.toNat (4:Int):Nat)=5 from rfl,show(1+0:Nat)=1 from rfl,show(1+5:Nat)=6 from rfl,show decide ((8:Int)<=((5:Nat):Int))=false from rfl,show decide ((4:Int)<=((5:Nat):Int))=true from rfl,show decide ((2:Int)<=((5:Nat):Int))=true from rfl,show IntKind.wrap .i64 (((5:Nat):Int)-(1:Int))=(4:Int) from rfl,show IntKind.wrap .i64 (((5:Nat):Int)-(2:Int))=(3:Int) from rfl,show IntKind.wrap .i64 (((5:Nat):Int)-(3:Int))=(2:Int) from rfl,show IntKind.wrap .i64 (((5:Nat):Int)-(4:Int))=(1:Int) from rfl,show decide ((2:Int)<=(0:Int))=false from rfl,show decide ((0:Int)<(0:Int))=false from rfl,show decide ((2:Int)<=(1:Int))=false from rfl,show decide ((0:Int)<(1:Int))=true from rfl,show decide ((2:Int)<=(2:Int))=true from rfl,show decide ((0:Int)<(2:Int))=true from rfl,show decide ((2:Int)<=(3:Int))=true from rfl,show decide ((0:Int)<(3:Int))=true from rfl,show decide ((2:Int)<=(4:Int))=true from rfl,show decide ((0:Int)<(4:Int))=true from rfl]
 simp only[zoR,slice,List.set_cons_succ,List.set_cons_zero,List.drop_zero,List.drop_succ_cons,List.take_succ_cons,List.take_zero,Nat.sub_zero,Option.some.injEq,Prod.mk.injEq,List.cons.injEq,and_true]
 refine⟨?_,?_,?_,?_,?_⟩<;>exact zdz (by omega)
theorem zhL(N n:Nat)(hN:10<=N)(h:n<65536):qp N ((n:Nat):Int)=some (dec n,()):=by
 unfold qp
 have key:zA N ((n:Nat):Int)=some (dec n,()):=by
  by_cases h0:n<100
  ·unfold zA
   rw[decide_eq_true (show(0:Int)<=((n:Nat):Int) by omega),cond_true,decide_eq_true (show((n:Nat):Int)<100 by omega),cond_true,zk1 N h0];rfl
  ·rcases(show(100<=n/\n<1000)\/(1000<=n/\n<10000)\/(10000<=n/\n<100000) by omega) with⟨h1,h2⟩|⟨h1,h2⟩|⟨h1,h2⟩
   ·rw[zrw n h1 h2];exact zrH N n hN h1 h2 (zqY N n 3 (by omega) (by omega) (by omega) (by omega) h1 h2)
   ·rw[zrx n h1 h2];exact zrI N n hN h1 h2 (zqY N n 4 (by omega) (by omega) (by omega) (by omega) h1 h2)
   ·rw[zry n h1 h2];exact zrJ N n hN h1 h2 (zqY N n 5 (by omega) (by omega) (by omega) (by omega) h1 h2)
 rw[key];rfl
def jb(l:List Nat):List UInt8:=l.flatMap fun n=>32::dec n
abbrev ints(l:List Nat):List Int:=l.map fun n=>((n:Nat):Int)
theorem kU(n:Nat):(dec n).length<=10:=zhG 10 n
theorem wD(l:List Nat):(jb l).length<=11*l.length:=by
 induction l with
 |nil=>simp [jb]
 |cons n l ih=>
  have:=kU n
  simp only[jb,List.flatMap_cons,List.length_append,List.length_cons] at ih |-
  omega
theorem zew{l:List Nat}{i:Nat}(h:i<l.length):nth (.int .i64) (ints l) i=((l[i]:Nat):Int):=by
 unfold nth ints
 rw[List.getD_eq_getElem?_getD,List.getElem?_map,List.getElem?_eq_getElem h];rfl
theorem ju{n:Nat}(h:n<549755813888):Nat.blt n qw=true:=by rw[Nat.blt_eq];exact h
theorem zU{n:Nat}(h:n<4611686018427387904):decide (n<4611686018427387904)=true:=decide_eq_true h
theorem jW{i n:Nat}(h:i<n):inb ((i:Nat):Int) n=true:=by unfold inb;rw[decide_eq_true (by omega),decide_eq_true (by omega)];rfl
theorem zlx(N:Nat)(hN:10<=N)(ns:List Nat)(hb:∀ n ∈ ns,n<65536)(hl:ns.length<=1000):∀ (m i:Nat) (acc:List UInt8),i<=ns.length->ns.length<m+i->acc.length+11*(ns.length-i)<=1000000 ->
  zK N m (ints ns) ((ns.length:Nat):Int) ((i:Nat):Int) acc=some (acc++jb (ns.drop i))
 |0,i,acc,h1,h2,h3=>by omega
 |m+1,i,acc,h1,h2,h3=>by
  unfold zK jV
  by_cases h:i<ns.length
  ·have hd:=kU ns[i]
   rw[decide_eq_true (by omega),cond_true,List.length_map,jW h,cond_true,Int.toNat_natCast,zew h,zhL N _ hN (hb _ (List.getElem_mem h)),Option.bind_some,
    zU (by simp only[List.length_cons,List.length_nil];omega),cond_true,ju (by simp only[List.length_append,List.length_cons,List.length_nil];omega),cond_true,wri (by omega) (by omega),kS,
    zlx N hN ns hb hl m (i+1) _ h (by omega) (by simp only[List.length_append,List.length_cons,List.length_nil];omega),List.drop_eq_getElem_cons h]
   simp only[jb,List.flatMap_cons,List.cons_append,List.nil_append,List.append_assoc]
  ·rw[decide_eq_false (by omega),cond_false,List.drop_of_length_le (by omega)]
   simp [jb]
theorem zcx(N:Nat)(hN:2000<=N)(ns:List Nat)(hb:∀ n ∈ ns,n<65536)(hl:ns.length<=1000):zz N (ints ns)=some (jb ns,()):=by
 unfold zz
 rw[List.length_map]
 cases ns with
 |nil=>rfl
 |cons n l=>
  have hd:=kU n
  simp only[List.length_cons] at hl
  rw[decide_eq_true (by simp only[List.length_cons];omega),cond_true,show inb (0:Int) (n::l).length=true from jW (i:=0) (by simp),cond_true,zew (l:=n::l) (i:=0) (by simp),List.getElem_cons_zero,zhL N n (by omega) (hb n List.mem_cons_self),Option.bind_some,
   zU (by simp only[List.length_cons,List.length_nil];omega),cond_true,ju (by simp only[List.length_append,List.length_cons,List.length_nil];omega),cond_true]
  have hw:=zlx N (by omega) (n::l) hb (by simp only[List.length_cons];omega) N 1 ([32]++dec n) (by simp) (by simp only[List.length_cons];omega) (by simp only[List.length_append,List.length_cons,List.length_nil];omega)
  rw[show((1:Nat):Int)=1 from rfl] at hw
  rw[hw,Option.bind_some]
  have hlen:=wD l
  have e:[32]++dec n++jb ((n::l).drop 1)=jb (n::l):=by simp [jb]
  rw[e]
  have hp:0<(jb (n::l)).length:=by rw[<- e];simp
  have hlt:=wD (n::l)
  simp only[List.length_cons] at hlt
  rw[show Nat.blt 0 (jb (n::l)).length=true by rw[Nat.blt_eq];exact hp,cond_true,decide_eq_true rfl,ju (by omega)]
  rfl
theorem znf(N n:Nat)(hN:10<=N)(h:n<65536):wi N ((n:Nat):Int)=some (dec n,()):=by
 unfold wi
 rw[zo1 (by omega),znL N n hN (by omega)];rfl
theorem zhW(N:Nat)(hN:10<=N)(ns:List Nat)(hb:∀ n ∈ ns,n<65536)(hl:ns.length<=1000):∀ (m i:Nat) (acc:List UInt8),i<=ns.length->ns.length<m+i->acc.length+11*(ns.length-i)<=3000000000 ->
  zI N m (ints ns) acc ((i:Nat):Int)=some (acc++jb (ns.drop i))
 |0,i,acc,h1,h2,h3=>by omega
 |m+1,i,acc,h1,h2,h3=>by
  unfold zI jR
  rw[List.length_map]
  by_cases h:i<ns.length
  ·have hd:=kU ns[i]
   rw[decide_eq_true (by omega),cond_true,zU (by simp only[List.length_cons,List.length_nil];omega),cond_true,jW h,cond_true,Int.toNat_natCast,zew h,znf N _ hN (hb _ (List.getElem_mem h)),Option.bind_some,
    zU (by simp only[List.length_append,List.length_cons,List.length_nil];omega),cond_true,wri (by omega) (by omega),kS,
    zhW N hN ns hb hl m (i+1) _ h (by omega) (by simp only[List.length_append,List.length_cons,List.length_nil];omega),List.drop_eq_getElem_cons h]
   simp only[jb,List.flatMap_cons,List.cons_append,List.nil_append,List.append_assoc]
  ·rw[decide_eq_false (by omega),cond_false,List.drop_of_length_le (by omega)]
   simp [jb]
def hx2(b:UInt8):List UInt8:=[nth .u8 zjd (b.toNat/16),nth .u8 zjd (b.toNat % 16)]
def zjL(l:List UInt8):List UInt8:=l.flatMap hx2
theorem zco(l:List UInt8):(zjL l).length=2*l.length:=by
 induction l with
 |nil=>rfl
 |cons b l ih=>simp only[zjL,List.flatMap_cons,List.length_append,List.length_cons] at ih |-;rw[ih];simp [hx2];omega
abbrev zqt:List UInt8:=[48,49,50,51,52,53,54,55,56,57,97,98,99,100,101,102]
theorem zcm{p:UInt8->Bool}(h:((List.range 256).all fun n=>p (UInt8.ofNat n))=true)(b:UInt8):p b=true:=by
 rw[List.all_eq_true] at h
 have:=h b.toNat (List.mem_range.2 b.toNat_lt)
 rwa [UInt8.ofNat_toNat] at this
theorem znX(b:UInt8):inb ((UInt8.toNat (zkY b (4:Int)):Nat):Int) 16=true/\inb ((UInt8.toNat (b &&& (15:UInt8)):Nat):Int) 16=true /\
  [nth .u8 zjd (Int.toNat ((UInt8.toNat (zkY b (4:Int)):Nat):Int)),nth .u8 zjd (Int.toNat ((UInt8.toNat (b &&& (15:UInt8)):Nat):Int))]=hx2 b:=by
 have h:=zcm (p:=fun b=>inb ((UInt8.toNat (zkY b (4:Int)):Nat):Int) 16&&(inb ((UInt8.toNat (b &&& (15:UInt8)):Nat):Int) 16&&([nth .u8 zjd (Int.toNat ((UInt8.toNat (zkY b (4:Int)):Nat):Int)),nth .u8 zjd (Int.toNat ((UInt8.toNat (b &&& (15:UInt8)):Nat):Int))]==hx2 b))) (by kernel_rfl) b
 simp only[Bool.and_eq_true,beq_iff_eq] at h
 exact h
theorem zpl(b:UInt8):zE ((UInt8.toNat (b/(16:UInt8)):Nat):Int) ((UInt8.toNat ((b/(16:UInt8))+(1:UInt8)):Nat):Int) 16=true/\zE ((UInt8.toNat (b % (16:UInt8)):Nat):Int) ((UInt8.toNat ((b % (16:UInt8))+(1:UInt8)):Nat):Int) 16=true /\
  slice zqt (Int.toNat ((UInt8.toNat (b/(16:UInt8)):Nat):Int)) (Int.toNat ((UInt8.toNat ((b/(16:UInt8))+(1:UInt8)):Nat):Int))=[nth .u8 zjd (b.toNat/16)] /\
  slice zqt (Int.toNat ((UInt8.toNat (b % (16:UInt8)):Nat):Int)) (Int.toNat ((UInt8.toNat ((b % (16:UInt8))+(1:UInt8)):Nat):Int))=[nth .u8 zjd (b.toNat % 16)]:=by
 have h:=zcm (p:=fun b=>zE ((UInt8.toNat (b/(16:UInt8)):Nat):Int) ((UInt8.toNat ((b/(16:UInt8))+(1:UInt8)):Nat):Int) 16&&(zE ((UInt8.toNat (b % (16:UInt8)):Nat):Int) ((UInt8.toNat ((b % (16:UInt8))+(1:UInt8)):Nat):Int) 16 &&
  ((slice zqt (Int.toNat ((UInt8.toNat (b/(16:UInt8)):Nat):Int)) (Int.toNat ((UInt8.toNat ((b/(16:UInt8))+(1:UInt8)):Nat):Int))==[nth .u8 zjd (b.toNat/16)]) &&
  (slice zqt (Int.toNat ((UInt8.toNat (b % (16:UInt8)):Nat):Int)) (Int.toNat ((UInt8.toNat ((b % (16:UInt8))+(1:UInt8)):Nat):Int))==[nth .u8 zjd (b.toNat % 16)])))) (by kernel_rfl) b
 simp only[Bool.and_eq_true,beq_iff_eq] at h
 exact h
theorem zmf{l:List UInt8}{i:Nat}(h:i<l.length):nth .u8 l i=l[i]:=by
 unfold nth;rw[List.getD_eq_getElem?_getD,List.getElem?_eq_getElem h];rfl
theorem zpi(N:Nat)(l:List UInt8)(hl:l.length<=100000):∀ (m i:Nat) (acc:List UInt8),i<=l.length->l.length<m+i->acc.length+2*(l.length-i)<=1000000 ->
  zJ N m l ((l.length:Nat):Int) ((i:Nat):Int) acc=some (acc++zjL (l.drop i))
 |0,i,acc,h1,h2,h3=>by omega
 |m+1,i,acc,h1,h2,h3=>by
  unfold zJ jT
  by_cases h:i<l.length
  ·obtain⟨e1,e2,e3⟩:=znX l[i]
   rw[decide_eq_true (by omega),cond_true,jW h,cond_true,Int.toNat_natCast,zmf h,e1,cond_true,e2,cond_true,ju (by omega),cond_true,e3,wri (by omega) (by omega),kS,
    zpi N l hl m (i+1) _ h (by omega) (by simp only[List.length_append,hx2,List.length_cons,List.length_nil];omega),List.drop_eq_getElem_cons h]
   simp only[zjL,List.flatMap_cons,List.append_assoc]
  ·rw[decide_eq_false (by omega),cond_false,List.drop_of_length_le (by omega)]
   simp [zjL]
theorem znj(N:Nat)(l:List UInt8)(hl:l.length<=100000):∀ (m i:Nat) (acc:List UInt8),i<=l.length->l.length<m+i->acc.length+2*(l.length-i)<=1000000 ->
  qe N m l acc ((i:Nat):Int)=some (acc++zjL (l.drop i))
 |0,i,acc,h1,h2,h3=>by omega
 |m+1,i,acc,h1,h2,h3=>by
  unfold qe kK
  by_cases h:i<l.length
  ·obtain⟨e1,e2,e3,e4⟩:=zpl l[i]
   rw[decide_eq_true (by omega),cond_true,jW h,cond_true,cond_true,Int.toNat_natCast,zmf h,e1,cond_true,e3,zU (by simp only[List.length_cons,List.length_nil];omega),cond_true,cond_true,cond_true,e2,cond_true,e4,
    zU (by simp only[List.length_append,List.length_cons,List.length_nil];omega),cond_true,wri (by omega) (by omega),kS,
    znj N l hl m (i+1) _ h (by omega) (by simp only[List.length_append,List.length_cons,List.length_nil];omega),List.drop_eq_getElem_cons h]
   simp only[zjL,List.flatMap_cons,List.append_assoc,hx2,List.cons_append,List.nil_append]
  ·rw[decide_eq_false (by omega),cond_false,List.drop_of_length_le (by omega)]
   simp [zjL]
def wO(l:List UInt8):List UInt8:=match zb9 l with
 |some q=>[62,32]++q++[10]
 |none=>[61,32]++zjL l++[10]
theorem xG(l:List UInt8):(wO l).length<=2*l.length+10:=by
 unfold wO
 cases h:zb9 l with
 |none=>simp only[List.length_append,zco,List.length_cons,List.length_nil];omega
 |some q=>have:=zcQ h;simp only[List.length_append,List.length_cons,List.length_nil];omega
theorem zh0(l:List UInt8)(hl:l.length<=20000):qF 200000 l=some (wO l,()):=by
 unfold qF wO
 rw[zjT hl,Option.bind_some]
 cases h:zb9 l with
 |some q=>
  have hq:=zcQ h
  simp only[cond_true]
  rw[zU (by simp only[List.length_cons,List.length_nil];omega),cond_true,zU (by simp only[List.length_append,List.length_cons,List.length_nil];omega),cond_true]
 |none=>
  simp only[cond_false]
  have hh:=zpi 200000 l (by omega) 200000 0 [61,32] (Nat.zero_le _) (by omega) (by simp only[List.length_cons,List.length_nil];omega)
  rw[show((0:Nat):Int)=0 from rfl] at hh
  rw[hh,Option.bind_some,List.drop_zero,zU (by simp only[List.length_append,zco,List.length_cons,List.length_nil];omega),cond_true]
theorem zfT(l:List UInt8)(hl:l.length<=20000):qS 200000 l=some (wO l,()):=by
 unfold qS wO
 rw[zlV hl,Option.bind_some]
 cases h:zb9 l with
 |some q=>
  have hq:=zcQ h
  simp only[cond_true]
  rw[zU (by simp only[List.length_cons,List.length_nil];omega),cond_true,zU (by simp only[List.length_append,List.length_cons,List.length_nil];omega),cond_true]
 |none=>
  simp only[cond_false]
  have hh:=znj 200000 l (by omega) 200000 0 [] (Nat.zero_le _) (by omega) (by simp only[List.length_nil];omega)
  rw[show((0:Nat):Int)=0 from rfl] at hh
  unfold zac
  rw[hh,Option.bind_some,Option.bind_some,List.drop_zero,List.nil_append,zU (by simp only[zco,List.length_cons,List.length_nil];omega),cond_true,
   zU (by simp only[List.length_append,zco,List.length_cons,List.length_nil];omega),cond_true]
def jh:List (List UInt8)->List UInt8:=fun ps=>ps.flatMap wO
abbrev spL(b:List UInt8):List (List UInt8):=Go.Lib.split b [13,10]
def zgc(b:List UInt8):Nat:=if((spL b).getD ((spL b).length-1) []).length=0 then(spL b).length-1 else(spL b).length
def kO(b:List UInt8):List UInt8:=jh ((spL b).take (zgc b))
theorem zjZ(ps:List (List UInt8))(x y)(z:Int)(off n:Nat)(hn:off+n<=ps.length)(hb:∀ p ∈ ps,p.length<=20000)(hlen:n<=20000):∀ (m i:Nat) (acc:List UInt8),i<=n->n<m+i->acc.length+50000*(n-i)<=100000000000 ->
  zr 200000 m x y z off n ((n:Nat):Int) ((i:Nat):Int) acc ps=some (x,y,z,acc++jh ((ps.drop (off+i)).take (n-i)),ps)
 |0,i,acc,h1,h2,h3=>by omega
 |m+1,i,acc,h1,h2,h3=>by
  unfold zr jy
  by_cases h:i<n
  ·have hi:off+i<ps.length:=by omega
   have e:nth (.slc .u8) ps (off+i)=ps[off+i]:=by unfold nth;rw[List.getD_eq_getElem?_getD,List.getElem?_eq_getElem hi];rfl
   have hp:=hb _ (List.getElem_mem hi)
   have hsl:=xG ps[off+i]
   rw[decide_eq_true (by omega),cond_true,jW h,cond_true,Int.toNat_natCast,e,zh0 _ hp,Option.bind_some,ju (by simp only;omega),cond_true,wri (by omega) (by omega),kS,
    zjZ ps x y z off n hn hb hlen m (i+1) _ h (by omega) (by simp only[List.length_append];omega)]
   have e2:(ps.drop (off+i)).take (n-i)=ps[off+i]::(ps.drop (off+(i+1))).take (n-(i+1)):=by
    rw[List.drop_eq_getElem_cons hi,show n-i=(n-(i+1))+1 by omega,List.take_succ_cons];rfl
   rw[e2]
   simp only[jh,List.flatMap_cons,List.append_assoc]
  ·rw[decide_eq_false (by omega),cond_false,show n-i=0 by omega]
   simp [jh]
theorem zhN(ps:List (List UInt8))(x y)(z z2:Int)(off n:Nat)(hn:off+n<=ps.length)(hb:∀ p ∈ ps,p.length<=20000)(hlen:n<=20000):∀ (m i:Nat) (acc:List UInt8),i<=n->n<m+i->acc.length+50000*(n-i)<=100000000000 ->
  zp 200000 m x y z z2 off n ((n:Nat):Int) ((i:Nat):Int) acc ps=some (x,y,z,z2,acc++jh ((ps.drop (off+i)).take (n-i)),ps)
 |0,i,acc,h1,h2,h3=>by omega
 |m+1,i,acc,h1,h2,h3=>by
  unfold zp jg
  by_cases h:i<n
  ·have hi:off+i<ps.length:=by omega
   have e:nth (.slc .u8) ps (off+i)=ps[off+i]:=by unfold nth;rw[List.getD_eq_getElem?_getD,List.getElem?_eq_getElem hi];rfl
   have hp:=hb _ (List.getElem_mem hi)
   have hsl:=xG ps[off+i]
   rw[decide_eq_true (by omega),cond_true,jW h,cond_true,Int.toNat_natCast,e,zh0 _ hp,Option.bind_some,ju (by simp only;omega),cond_true,wri (by omega) (by omega),kS,
    zhN ps x y z z2 off n hn hb hlen m (i+1) _ h (by omega) (by simp only[List.length_append];omega)]
   have e2:(ps.drop (off+i)).take (n-i)=ps[off+i]::(ps.drop (off+(i+1))).take (n-(i+1)):=by
    rw[List.drop_eq_getElem_cons hi,show n-i=(n-(i+1))+1 by omega,List.take_succ_cons];rfl
   rw[e2]
   simp only[jh,List.flatMap_cons,List.append_assoc]
  ·rw[decide_eq_false (by omega),cond_false,show n-i=0 by omega]
   simp [jh]
theorem zdU(sep:List UInt8):∀ (k:Nat) (l:List UInt8),1<=(Go.Lib.splitK sep 0 k l).length/\(Go.Lib.splitK sep 0 k l).length<=k+1/\∀ p ∈ Go.Lib.splitK sep 0 k l,p.length<=l.length
 |0,l=>⟨Nat.le_refl _,Nat.le_refl _,fun p hp=>by rw[List.mem_singleton.1 hp];exact Nat.le_refl _⟩
 |k+1,l=>by
  unfold Go.Lib.splitK
  split
  ·exact⟨Nat.le_refl _,by simp,fun p hp=>by rw[List.mem_singleton.1 hp];exact Nat.le_refl _⟩
  ·obtain⟨h1,h2,h3⟩:=zdU sep k (l.drop ((Go.Lib.index l sep).toNat+sep.length))
   refine⟨by simp,by simpa using h2,fun p hp=>?_⟩
   rcases List.mem_cons.1 hp with rfl|hp
   ·rw[List.length_take];omega
   ·have:=h3 p hp
    rw[List.length_drop] at this
    omega
theorem zc9(b:List UInt8):1<=(spL b).length/\(spL b).length<=b.length+1/\∀ p ∈ spL b,p.length<=b.length:=by
 obtain⟨h1,h2,h3⟩:=zdU [13,10] (Go.Lib.count b [13,10]) b
 have hc:Go.Lib.count b [13,10]<=b.length:=Go.Lib.countB_le ⟨([13,10]:List UInt8).toArray⟩ (by decide) (⟨b.toArray⟩:ByteArray).size ⟨b.toArray⟩ (Nat.le_refl _)
 exact⟨h1,Nat.le_trans h2 (by omega),h3⟩
theorem zjy(b:List UInt8):zgc b<=(spL b).length:=by unfold zgc;split<;>omega
theorem zhF{R:Type}(b:List UInt8)(hb:b.length<=5000)(A:Nat->Int->Option R):
  (cond (inb (IntKind.wrap .i64 ((((spL b).length:Nat):Int)-(1:Int))) (spL b).length) (cond ((((List.length (nth (.slc .u8) (spL b) (Int.toNat (IntKind.wrap .i64 ((((spL b).length:Nat):Int)-(1:Int)))))):Nat):Int)==(0:Int))
   (cond ((zE (0:Int) (IntKind.wrap .i64 ((((spL b).length:Nat):Int)-(1:Int))) (spL b).length)&&true) (A ((Int.toNat (IntKind.wrap .i64 ((((spL b).length:Nat):Int)-(1:Int))))-0) ((((Int.toNat (IntKind.wrap .i64 ((((spL b).length:Nat):Int)-(1:Int))))-0):Nat):Int)) none)
   (A (spL b).length (((spL b).length:Nat):Int))) none)=A (zgc b) ((zgc b:Nat):Int):=by
 obtain⟨h1,h2,_⟩:=zc9 b
 have ew:IntKind.wrap .i64 ((((spL b).length:Nat):Int)-(1:Int))=(((spL b).length-1:Nat):Int):=by rw[wri (by omega) (by omega)];omega
 rw[ew,jW (by omega),cond_true,Int.toNat_natCast,Nat.sub_zero]
 unfold zgc
 have en:nth (.slc .u8) (spL b) ((spL b).length-1)=(spL b).getD ((spL b).length-1) []:=rfl
 rw[en]
 by_cases h:((spL b).getD ((spL b).length-1) []).length=0
 ·rw[h,if_pos rfl,show(((0:Nat):Int)==(0:Int))=true from rfl,cond_true,show zE (0:Int) (((spL b).length-1:Nat):Int) (spL b).length=true by unfold zE;simp<;>omega,Bool.and_true,cond_true]
 ·rw[if_neg h,show((((((spL b).getD ((spL b).length-1) []).length:Nat):Int))==(0:Int))=false by rw[beq_eq_false_iff_ne];omega,cond_false]
theorem zdK{M:Nat}:∀ {ps:List (List UInt8)},(∀ p ∈ ps,p.length<=M)->(jh ps).length<=(2*M+10)*ps.length
 | [],_=>by simp [jh]
 |p::ps,h=>by
  have h1:=xG p
  have h2:=h p List.mem_cons_self
  have h3:=zdK fun q hq=>h q (List.mem_cons_of_mem _ hq)
  simp only[jh,List.flatMap_cons,List.length_append,List.length_cons] at h3 |-
  rw[Nat.mul_add,Nat.mul_one]
  omega
theorem za9{b:List UInt8}(hb:b.length<=5000):(kO b).length<=50060010:=by
 obtain⟨h1,h2,h3⟩:=zc9 b
 have h:=zdK (M:=5000) (ps:=(spL b).take (zgc b)) fun p hp=>Nat.le_trans (h3 p (List.mem_of_mem_take hp)) hb
 have h4:((spL b).take (zgc b)).length<=5001:=by rw[List.length_take];omega
 have:(2*5000+10)*((spL b).take (zgc b)).length<=(2*5000+10)*5001:=Nat.mul_le_mul_left _ h4
 unfold kO
 omega
def zct:Nat->List (List UInt8)->List UInt8
 |_,[]=>[]
 |k,b::l=>[99,108,105,101,110,116]++jb [k]++[10]++kO b++zct (k+1) l
theorem zgV(k:Nat):(jb [k]).length<=11:=by have:=wD [k];simpa using this
theorem zmg{l:List (List UInt8)}{i:Nat}(h:i<l.length):nth (.sl .u8) l i=l[i]:=by
 unfold nth;rw[List.getD_eq_getElem?_getD,List.getElem?_eq_getElem h];rfl
theorem znh(xs:List Int)(out:List (List UInt8))(hb:∀ b ∈ out,b.length<=5000)(hl:out.length<=20):∀ (m i:Nat) (acc:List UInt8),i<=out.length->out.length<m+i->acc.length+50060100*(out.length-i)<=2000000000 ->
  zi 200000 m xs out ((out.length:Nat):Int) ((i:Nat):Int) acc=some (xs,acc++zct i (out.drop i))
 |0,i,acc,h1,h2,h3=>by omega
 |m+1,i,acc,h1,h2,h3=>by
  unfold zi je
  by_cases h:i<out.length
  ·have hbi:=hb _ (List.getElem_mem h)
   have hw:=zcx 200000 (by omega) [i] (fun n hn=>by rw[List.mem_singleton.1 hn];omega) (by simp)
   have hwl:=zgV i
   have htl:=za9 hbi
   obtain⟨g1,g2,g3⟩:=zc9 out[i]
   rw[decide_eq_true (by omega),cond_true,jW h,cond_true,show([((i:Nat):Int)]:List Int)=ints [i] from rfl,hw,Option.bind_some,
    zU (by simp only[List.length_cons,List.length_nil];omega),cond_true,zU (by simp only[List.length_append,List.length_cons,List.length_nil];omega),cond_true,
    ju (by simp only[List.length_append,List.length_cons,List.length_nil];omega),cond_true,Int.toNat_natCast,zmg h,
    show(Nat.ble out[i].length jG&&true)=true by rw[Bool.and_true,Nat.ble_eq];unfold jG;omega,cond_true]
   refine(zhF out[i] hbi (fun n z=>Option.bind (zp 200000 200000 xs out ((out.length:Nat):Int) ((i:Nat):Int) 0 n z (0:Int) (acc++((([99,108,105,101,110,116]:List UInt8)++jb [i])++([10]:List UInt8))) (spL out[i])) fun o=>
    zi 200000 m o.1 o.2.1 o.2.2.1 (IntKind.wrap .i64 (o.2.2.2.1+(1:Int))) o.2.2.2.2.1)).trans ?_
   have hc:=zjy out[i]
   have hh:=zhN (spL out[i]) xs out ((out.length:Nat):Int) ((i:Nat):Int) 0 (zgc out[i]) (by omega) (fun p hp=>Nat.le_trans (g3 p hp) (by omega)) (by omega) 200000 0 (acc++((([99,108,105,101,110,116]:List UInt8)++jb [i])++([10]:List UInt8)))
    (Nat.zero_le _) (by omega) (by simp only[List.length_append,List.length_cons,List.length_nil];omega)
   rw[show((0:Nat):Int)=0 from rfl] at hh
   show Option.bind _ _=_
   rw[hh,Option.bind_some]
   simp only[Nat.sub_zero,Nat.add_zero,List.drop_zero]
   rw[wri (by omega) (by omega),kS]
   have ht:jh ((spL out[i]).take (zgc out[i]))=kO out[i]:=rfl
   rw[ht,znh xs out hb hl m (i+1) _ h (by omega) (by simp only[List.length_append,List.length_cons,List.length_nil];omega),List.drop_eq_getElem_cons h]
   simp only[zct,List.append_assoc]
  ·rw[decide_eq_false (by omega),cond_false,List.drop_of_length_le (by omega)]
   simp [zct]
theorem zcu:∀ {l:List (List UInt8)} {k:Nat},(∀ b ∈ l,b.length<=5000)->(zct k l).length<=50060100*l.length
 | [],_,_=>by simp [zct]
 |b::l,k,h=>by
  have h1:=za9 (h b List.mem_cons_self)
  have h2:=zcu (k:=k+1) fun q hq=>h q (List.mem_cons_of_mem _ hq)
  have h3:=zgV k
  simp only[zct,List.length_append,List.length_cons,List.length_nil]
  omega
def xo(out:List (List UInt8))(ns:List Nat):List UInt8:=zct 0 out++[111,114,100,101,114]++jb ns++[10]
theorem ziJ{ns:List Nat}{o:List UInt8}(hn:∀ n ∈ ns,n<65536)(hnl:ns.length<=1000)(h0:0<o.length)(h1:o.length<=3000000000):
  (cond (Nat.blt 0 (List.length o)) (cond (decide ((((List.length o):Nat):Int)=(((List.length o):Nat):Int))&&(Nat.blt 0 (List.length o)&&Nat.blt (List.length o) qw)) (cond (decide (List.length o+List.length ([111,114,100,101,114]:List UInt8)<4611686018427387904))
   (Option.bind (zz 200000 (ints ns)) fun y396=>(cond (decide (List.length (o++([111,114,100,101,114]:List UInt8))+List.length y396.1<4611686018427387904)) (cond (decide (List.length ((o++([111,114,100,101,114]:List UInt8))++y396.1)+List.length ([10]:List UInt8)<4611686018427387904))
    (some ((((o++([111,114,100,101,114]:List UInt8))++y396.1)++([10]:List UInt8)),())) none) none)) none) none) none)=some (o++[111,114,100,101,114]++jb ns++[10],()):=by
 have hw:=wD ns
 rw[show Nat.blt 0 o.length=true by rw[Nat.blt_eq];exact h0,cond_true,decide_eq_true rfl,ju (by omega),Bool.and_self,Bool.and_self,cond_true,zU (by simp only[List.length_cons,List.length_nil];omega),cond_true,zcx 200000 (by omega) ns hn hnl,Option.bind_some,
  zU (by simp only[List.length_append,List.length_cons,List.length_nil];omega),cond_true,zU (by simp only[List.length_append,List.length_cons,List.length_nil];omega),cond_true]
def zrz(o:List Int×List UInt8):Option ((List UInt8)×Unit):=
  (cond (Nat.blt 0 (List.length o.2)) (cond (decide ((((List.length o.2):Nat):Int)=(((List.length o.2):Nat):Int))&&(Nat.blt 0 (List.length o.2)&&Nat.blt (List.length o.2) qw)) (cond (decide (List.length o.2+List.length ([111,114,100,101,114]:List UInt8)<4611686018427387904))
   (Option.bind (zz 200000 o.1) fun y396=>(cond (decide (List.length (o.2++([111,114,100,101,114]:List UInt8))+List.length y396.1<4611686018427387904)) (cond (decide (List.length ((o.2++([111,114,100,101,114]:List UInt8))++y396.1)+List.length ([10]:List UInt8)<4611686018427387904))
    (some ((((o.2++([111,114,100,101,114]:List UInt8))++y396.1)++([10]:List UInt8)),())) none) none)) none) none) none)
theorem zky(out:List (List UInt8))(hb:∀ b ∈ out,b.length<=5000)(hl:out.length<=20)(ns:List Nat)(hn:∀ n ∈ ns,n<65536)(hnl:ns.length<=1000):qT 200000 out (ints ns)=some (xo out ns,()):=by
 unfold qT
 have hwn:=wD ns
 cases out with
 |nil=>
  rw[show decide ((0:Int)<((([]:List (List UInt8)).length:Nat):Int))=false from rfl,cond_false,zcx 200000 (by omega) ns hn hnl,Option.bind_some,zU (by simp only[List.length_cons,List.length_nil];omega),cond_true,
   zU (by simp only[List.length_append,List.length_cons,List.length_nil];omega),cond_true]
  rfl
 |cons b l=>
  have hbi:=hb b List.mem_cons_self
  have hw:=zcx 200000 (by omega) [0] (fun n hn=>by rw[List.mem_singleton.1 hn];omega) (by simp)
  have hwl:=zgV 0
  have htl:=za9 hbi
  obtain⟨g1,g2,g3⟩:=zc9 b
  simp only[List.length_cons] at hl
  rw[decide_eq_true (show(0:Int)<(((b::l).length:Nat):Int) by simp only[List.length_cons];omega),cond_true,show inb (0:Int) (b::l).length=true from jW (i:=0) (by simp),cond_true,show([(0:Int)]:List Int)=ints [0] from rfl,hw,Option.bind_some,
   zU (by simp only[List.length_cons,List.length_nil];omega),cond_true,zU (by simp only[List.length_append,List.length_cons,List.length_nil];omega),cond_true,
   ju (by simp only[List.length_append,List.length_cons,List.length_nil];omega),cond_true,show nth (.sl .u8) (b::l) 0=b from rfl,
   show(Nat.ble b.length jG&&true)=true by rw[Bool.and_true,Nat.ble_eq];unfold jG;omega,cond_true]
  refine(zhF b hbi (fun n z=>Option.bind (zr 200000 200000 (ints ns) (b::l) (((b::l).length:Nat):Int) 0 n z (0:Int) ((([99,108,105,101,110,116]:List UInt8)++jb [0])++([10]:List UInt8)) (spL b)) fun o=>
   Option.bind (zi 200000 200000 o.1 o.2.1 o.2.2.1 (1:Int) o.2.2.2.1) fun o395=>zrz o395)).trans ?_
  have hc:=zjy b
  have hh:=zjZ (spL b) (ints ns) (b::l) (((b::l).length:Nat):Int) 0 (zgc b) (by omega) (fun p hp=>Nat.le_trans (g3 p hp) (by omega)) (by omega) 200000 0 ((([99,108,105,101,110,116]:List UInt8)++jb [0])++([10]:List UInt8))
   (Nat.zero_le _) (by omega) (by simp only[List.length_append,List.length_cons,List.length_nil];omega)
  rw[show((0:Nat):Int)=0 from rfl] at hh
  show Option.bind _ _=_
  rw[hh,Option.bind_some]
  simp only[Nat.sub_zero,Nat.add_zero,List.drop_zero]
  have ht:jh ((spL b).take (zgc b))=kO b:=rfl
  have ho:=znh (ints ns) (b::l) hb (by simp only[List.length_cons];omega) 200000 1 (([99,108,105,101,110,116]++jb [0]++[10])++kO b) (by simp) (by simp only[List.length_cons];omega) (by simp only[List.length_append,List.length_cons,List.length_nil];omega)
  rw[show((1:Nat):Int)=1 from rfl] at ho
  rw[ht,ho,Option.bind_some]
  have e1:([99,108,105,101,110,116]++jb [0]++[10])++kO b++zct 1 ((b::l).drop 1)=zct 0 (b::l):=by simp only[zct,List.drop_succ_cons,List.drop_zero,List.append_assoc]
  rw[e1]
  have hr:=zcu (k:=0) hb
  simp only[List.length_cons] at hr
  exact ziJ (o:=zct 0 (b::l)) hn hnl (by simp [zct]) (by omega)
theorem zoJ{b:List UInt8}(h:Go.Lib.index b [13,10]=-1):spL b=[b]:=by
 unfold spL Go.Lib.split
 rw[Go.Lib.count_miss h];rfl
theorem zp7{b:List UInt8}{i:Nat}(h:Go.Lib.index b [13,10]=((i:Nat):Int)):spL b=b.take i::spL (b.drop (i+2)):=by
 unfold spL Go.Lib.split
 rw[Go.Lib.count_hit (by simp) h,Nat.add_comm 1]
 show(if Go.Lib.index b [13,10] == -1 then[b] else b.take ((Go.Lib.index b [13,10]).toNat+0)::Go.Lib.splitK [13,10] 0 (Go.Lib.count (b.drop (i+2)) [13,10]) (b.drop ((Go.Lib.index b [13,10]).toNat+2)))=_
 rw[if_neg (by rw[h];intro e;have:=beq_iff_eq.1 e;omega),h]
 rfl
theorem zll{b:List UInt8}(h:Go.Lib.index b [13,10]=-1):kO b=if b.length=0 then[] else wO b:=by
 unfold kO zgc
 rw[zoJ h]
 by_cases h0:b.length=0
 ·rw[if_pos h0,if_pos (show(([b]:List (List UInt8)).getD (([b]:List (List UInt8)).length-1) []).length=0 from h0)]
  rfl
 ·rw[if_neg h0,if_neg (show ¬ (([b]:List (List UInt8)).getD (([b]:List (List UInt8)).length-1) []).length=0 from h0)]
  simp [jh]
theorem zmQ{b:List UInt8}{i:Nat}(h:Go.Lib.index b [13,10]=((i:Nat):Int)):kO b=wO (b.take i)++kO (b.drop (i+2)):=by
 unfold kO zgc
 rw[zp7 h]
 obtain⟨g1,_,_⟩:=zc9 (b.drop (i+2))
 generalize spL (b.drop (i+2))=ps at g1 |-
 have e:(b.take i::ps).getD ((b.take i::ps).length-1) []=ps.getD (ps.length-1) []:=by
  rw[List.length_cons,Nat.add_sub_cancel,List.getD_eq_getElem?_getD,List.getD_eq_getElem?_getD]
  obtain⟨k,hk⟩:∃ k,ps.length=k+1:=⟨ps.length-1,by omega⟩
  rw[hk,List.getElem?_cons_succ,Nat.add_sub_cancel]
 rw[e]
 by_cases h0:(ps.getD (ps.length-1) []).length=0
 ·rw[if_pos h0,if_pos h0,List.length_cons,Nat.add_sub_cancel]
  obtain⟨k,hk⟩:∃ k,ps.length=k+1:=⟨ps.length-1,by omega⟩
  rw[hk,List.take_succ_cons,Nat.add_sub_cancel]
  rfl
 ·rw[if_neg h0,if_neg h0,List.take_length,List.take_length]
  rfl
theorem zgT(b:List UInt8)(n:Nat):Go.Lib.occAt b [13,10] n=true↔b[n]?=some 13/\b[n+1]?=some 10:=by
 unfold Go.Lib.occAt
 rw[<- List.getElem?_drop (i:=n) (j:=1) (xs:=b),show b[n]?=(b.drop n)[0]? by rw[List.getElem?_drop];rfl]
 generalize b.drop n=l
 cases l with
 |nil=>exact⟨fun h=>(by cases h),fun h=>(by cases h.1)⟩
 |cons x l=>cases l with
  |nil=>exact⟨fun h=>by rw[show List.isPrefixOf [13,10] [x]=((13==x)&&false) from rfl,Bool.and_false] at h;exact absurd h (by simp),fun h=>(by cases h.2)⟩
  |cons y l=>
   show((13==x)&&((10==y)&&true))=true↔some x=some 13/\some y=some 10
   rw[Bool.and_true,Bool.and_eq_true,beq_iff_eq,beq_iff_eq]
   exact⟨fun⟨h1,h2⟩=>⟨by rw[<- h1],by rw[<- h2]⟩,fun⟨h1,h2⟩=>⟨(Option.some.inj h1).symm,(Option.some.inj h2).symm⟩⟩
theorem zex(b:List UInt8)(n j:Nat):Go.Lib.occAt (b.drop n) [13,10] j=Go.Lib.occAt b [13,10] (n+j):=by unfold Go.Lib.occAt;rw[List.drop_drop]
theorem zpm{b:List UInt8}{f k:Nat}(hf:f<=k)(ho:Go.Lib.occAt b [13,10] k=true)(hn:∀ j,f<=j->j<k->Go.Lib.occAt b [13,10] j=false):Go.Lib.index (b.drop f) [13,10]=((k-f:Nat):Int):=by
 obtain⟨h1,_⟩:=(zgT b k).1 ho
 have hk:=(List.getElem?_eq_some_iff.1 h1).1
 refine Go.Lib.index_first (by rw[List.length_drop];omega) (by rw[zex,show f+(k-f)=k by omega];exact ho) fun j hj=>?_
 rw[zex]
 exact hn _ (by omega) (by omega)
theorem zlT{b:List UInt8}{f k:Nat}(hk:b.length<=k+1)(hn:∀ j,f<=j->j<k->Go.Lib.occAt b [13,10] j=false):Go.Lib.index (b.drop f) [13,10]=-1:=by
 refine Go.Lib.index_none fun j hj=>?_
 rw[zex]
 by_cases h:f+j<k
 ·exact hn _ (by omega) h
 ·cases ho:Go.Lib.occAt b [13,10] (f+j) with
  |false=>rfl
  |true=>
   obtain⟨_,h2⟩:=(zgT b (f+j)).1 ho
   have:=(List.getElem?_eq_some_iff.1 h2).1
   omega
def zf4(b:List UInt8)(f:Nat):List UInt8:=if f<b.length then wO (b.drop f) else[]
theorem zmP{b:List UInt8}{f:Nat}(h:Go.Lib.index (b.drop f) [13,10]=-1):kO (b.drop f)=zf4 b f:=by
 rw[zll h,List.length_drop]
 unfold zf4
 by_cases hf:f<b.length
 ·rw[if_neg (by omega),if_pos hf]
 ·rw[if_pos (by omega),if_neg hf]
theorem zot(xs:List Int)(out:List (List UInt8))(i:Nat)(hi:i<out.length)(hb:out[i].length<=5000):∀ (m k f:Nat) (acc:List UInt8),f<=k->k<=out[i].length->out[i].length<m+k->(∀ j,f<=j->j<k->Go.Lib.occAt out[i] [13,10] j=false) ->
  acc.length+(kO (out[i].drop f)).length<=3000000000 ->
  ∃ (acc':List UInt8) (f':Nat),zB 200000 m out xs acc ((i:Nat):Int) ((f:Nat):Int) ((k:Nat):Int)=some (out,xs,acc',((i:Nat):Int),((f':Nat):Int))/\f'<=out[i].length/\acc'++zf4 out[i] f'=acc++kO (out[i].drop f)
 |0,k,f,acc,h1,h2,h3,h4,h5=>by omega
 |m+1,k,f,acc,h1,h2,h3,h4,h5=>by
  unfold zB jP
  rw[jW hi,cond_true,Int.toNat_natCast,zmg hi,wri (x:=((k:Nat):Int)+1) (by omega) (by omega),kS]
  by_cases hk:k+1<out[i].length
  ·rw[decide_eq_true (by omega),cond_true,cond_true,jW (show k<out[i].length by omega),cond_true,Int.toNat_natCast,zmf (show k<out[i].length by omega)]
   have next:∀ (hno:Go.Lib.occAt out[i] [13,10] k=false),∃ (acc':List UInt8) (f':Nat),zB 200000 m out xs acc ((i:Nat):Int) ((f:Nat):Int) ((k+1:Nat):Int)=some (out,xs,acc',((i:Nat):Int),((f':Nat):Int))/\f'<=out[i].length/\acc'++zf4 out[i] f'=acc++kO (out[i].drop f):=fun hno=>
    zot xs out i hi hb m (k+1) f acc (by omega) (by omega) (by omega) (fun j q1 q2=>by
     rcases(show j<k\/j=k by omega) with q|rfl
     ·exact h4 j q1 q
     ·exact hno) h5
   have hocc:∀ c,Go.Lib.occAt out[i] [13,10] k=c->(c=true↔out[i][k]=13/\out[i][k+1]=10):=by
    intro c hc
    subst hc
    rw[zgT,List.getElem?_eq_getElem (show k<out[i].length by omega),List.getElem?_eq_getElem hk,Option.some.injEq,Option.some.injEq]
   by_cases e1:out[i][k]=13
   ·rw[show(out[i][k]==13)=true from beq_iff_eq.2 e1,cond_true,cond_true,jW hk,cond_true,Int.toNat_natCast,zmf hk]
    by_cases e2:out[i][k+1]=10
    ·have ho:Go.Lib.occAt out[i] [13,10] k=true:=(hocc _ rfl).2 ⟨e1,e2⟩
     have hx:=zpm h1 ho h4
     have ht:=zmQ hx
     rw[List.drop_drop,show f+(k-f+2)=k+2 by omega] at ht
     have hs:slice out[i] f k=(out[i].drop f).take (k-f):=rfl
     have hsl:(slice out[i] f k).length<=5000:=by rw[hs,List.length_take,List.length_drop];omega
     rw[show(out[i][k+1]==10)=true from beq_iff_eq.2 e2,cond_true,cond_true,show(zE ((f:Nat):Int) ((k:Nat):Int) out[i].length&&true)=true by unfold zE;simp<;>omega,cond_true,Int.toNat_natCast,zfT _ (by omega),Option.bind_some]
     rw[ht,List.length_append] at h5
     rw[<- hs] at h5 ht
     rw[zU (by simp only;omega),cond_true,wri (x:=((k:Nat):Int)+2) (by omega) (by omega),wri (x:=((k+1:Nat):Int)+1) (by omega) (by omega),show((k:Nat):Int)+2=((k+2:Nat):Int) by omega,show((k+1:Nat):Int)+1=((k+2:Nat):Int) by omega]
     obtain⟨acc',f',q1,q2,q3⟩:=zot xs out i hi hb m (k+2) (k+2) (acc++wO (slice out[i] f k)) (Nat.le_refl _) (by omega) (by omega) (fun j a b=>by omega) (by rw[List.length_append];omega)
     exact⟨acc',f',q1,q2,by rw[q3,ht,List.append_assoc]⟩
    ·rw[show(out[i][k+1]==10)=false from beq_eq_false_iff_ne.2 e2,cond_false]
     refine next ?_
     cases hc:Go.Lib.occAt out[i] [13,10] k with
     |false=>rfl
     |true=>exact absurd ((hocc _ hc).1 rfl).2 e2
   ·rw[show(out[i][k]==13)=false from beq_eq_false_iff_ne.2 e1,cond_false]
    refine next ?_
    cases hc:Go.Lib.occAt out[i] [13,10] k with
    |false=>rfl
    |true=>exact absurd ((hocc _ hc).1 rfl).1 e1
  ·rw[decide_eq_false (by omega),cond_false]
   exact⟨acc,f,rfl,by omega,by rw[zmP (zlT (by omega) h4)]⟩
theorem znN(l:List UInt8)(a:Nat):zpe l a=l.drop a:=by
 show slice l a l.length=l.drop a
 unfold slice
 rw[List.take_of_length_le (by rw[List.length_drop];exact Nat.le_refl _)]
theorem zlg{b:List UInt8}(hb:b.length<=5000)(f:Nat):(zf4 b f).length<=10010:=by
 unfold zf4
 split
 ·have:=xG (b.drop f)
  rw[List.length_drop] at this
  omega
 ·simp
theorem zkA(xs:List Int)(out:List (List UInt8))(hb:∀ b ∈ out,b.length<=5000)(hl:out.length<=20):∀ (m i:Nat) (acc:List UInt8),i<=out.length->out.length<m+i->acc.length+50060100*(out.length-i)<=2000000000 ->
  zH 200000 m out xs acc ((i:Nat):Int)=some (xs,acc++zct i (out.drop i))
 |0,i,acc,h1,h2,h3=>by omega
 |m+1,i,acc,h1,h2,h3=>by
  unfold zH jN
  by_cases h:i<out.length
  ·have hbi:=hb _ (List.getElem_mem h)
   have hd:=kU i
   have htl:=za9 hbi
   have ih:=fun acc' hacc=>zkA xs out hb hl m (i+1) acc' h (by omega) hacc
   rw[decide_eq_true (by omega),cond_true,zU (by simp only[List.length_cons,List.length_nil];omega),cond_true,znf 200000 i (by omega) (by omega),Option.bind_some,
    zU (by simp only[List.length_append,List.length_cons,List.length_nil];omega),cond_true,zU (by simp only[List.length_append,List.length_cons,List.length_nil];omega),cond_true]
   obtain⟨acc',f',q1,q2,q3⟩:=zot xs out i h hbi 200000 0 0 (((acc++([99,108,105,101,110,116,32]:List UInt8))++dec i)++([10]:List UInt8)) (Nat.le_refl _) (Nat.zero_le _) (by omega) (fun j a b=>by omega) (by
    rw[List.drop_zero];simp only[List.length_append,List.length_cons,List.length_nil];omega)
   rw[List.drop_zero] at q3
   rw[show((0:Nat):Int)=0 from rfl] at q1
   have hlen:=congrArg List.length q3
   simp only[List.length_append,List.length_cons,List.length_nil] at hlen
   have htail:=zlg hbi f'
   have e1:(((acc++([99,108,105,101,110,116,32]:List UInt8))++dec i)++([10]:List UInt8))++kO out[i]++zct (i+1) (out.drop (i+1))=acc++zct i (out.drop i):=by
    rw[List.drop_eq_getElem_cons h]
    simp only[zct,jb,List.flatMap_cons,List.flatMap_nil,List.append_nil,List.append_assoc,List.cons_append,List.nil_append]
   rw[q1,Option.bind_some]
   dsimp only
   rw[jW h,cond_true,Int.toNat_natCast,zmg h]
   by_cases hf:f'<out[i].length
   ·have et:zf4 out[i] f'=wO (out[i].drop f'):=if_pos hf
    rw[decide_eq_true (by omega),cond_true,cond_true,show(znG ((f':Nat):Int) out[i]&&true)=true by unfold znG zE;simp<;>omega,cond_true,Int.toNat_natCast,znN,zfT _ (by rw[List.length_drop];omega),Option.bind_some]
    rw[et] at q3 hlen htail
    rw[zU (by simp only;omega),cond_true,wri (by omega) (by omega),kS,ih _ (by simp only[List.length_append];omega),q3,e1]
   ·have et:zf4 out[i] f'=[]:=if_neg hf
    rw[et,List.append_nil] at q3
    rw[decide_eq_false (by omega),cond_false,wri (by omega) (by omega),kS,ih _ (by rw[q3];simp only[List.length_append,List.length_cons,List.length_nil];omega),q3,e1]
  ·rw[decide_eq_false (by omega),cond_false,List.drop_of_length_le (by omega)]
   simp [zct]
theorem ziN(out:List (List UInt8))(hb:∀ b ∈ out,b.length<=5000)(hl:out.length<=20)(ns:List Nat)(hn:∀ n ∈ ns,n<65536)(hnl:ns.length<=1000):jq 200000 out (ints ns)=some (xo out ns,()):=by
 unfold jq
 have ho:=zkA (ints ns) out hb hl 200000 0 [] (Nat.zero_le _) (by omega) (by simp only[List.length_nil];omega)
 have hr:=zcu (k:=0) hb
 have hwn:=wD ns
 have hw:=zhW 200000 (by omega) ns hn hnl 200000 0 (zct 0 out++[111,114,100,101,114]) (Nat.zero_le _) (by omega) (by simp only[List.length_append,List.length_cons,List.length_nil];omega)
 rw[show((0:Nat):Int)=0 from rfl] at ho hw
 rw[ho,Option.bind_some,List.drop_zero,List.nil_append]
 dsimp only
 rw[zU (by simp only[List.length_cons,List.length_nil];omega),cond_true,hw,Option.bind_some,List.drop_zero,zU (by simp only[List.length_append,List.length_cons,List.length_nil];omega),cond_true]
 rfl
abbrev clS:List UInt8:=[99,108,105,101,110,116,32]
abbrev zkj:List UInt8:=[10,99,108,105,101,110,116,32]
abbrev cnt(s:List UInt8):Nat:=Go.Lib.count s zkj
theorem zhD{b:UInt8}{l:List UInt8}(h:zkj.isPrefixOf (b::l)=false):cnt (b::l)=cnt l:=by
 have e:Go.Lib.index (b::l) zkj=if Go.Lib.index l zkj == -1 then -1 else Go.Lib.index l zkj+1:=by
  conv=>lhs;unfold Go.Lib.index
  rw[h];rfl
 by_cases hm:Go.Lib.index l zkj=-1
 ·rw[hm] at e
  unfold cnt
  rw[Go.Lib.count_miss hm,Go.Lib.count_miss (by rw[e];rfl)]
 ·have hge:=Go.Lib.index_ge l zkj
  obtain⟨i,hi⟩:∃ i:Nat,Go.Lib.index l zkj=i:=⟨(Go.Lib.index l zkj).toNat,by omega⟩
  have e2:Go.Lib.index (b::l) zkj=((i+1:Nat):Int):=by
   rw[e,if_neg (by intro q;exact hm (beq_iff_eq.1 q)),hi];omega
  unfold cnt
  rw[Go.Lib.count_hit (by simp) hi,Go.Lib.count_hit (by simp) e2]
  rfl
theorem zpb{b:UInt8}{l:List UInt8}(h:b≠10):cnt (b::l)=cnt l:=zhD (by
 show((10==b)&&_)=false
 rw[beq_eq_false_iff_ne.2 (fun e=>h e.symm),Bool.false_and])
theorem zcH:∀ {x w:List UInt8},(∀ c ∈ x,c≠10)->cnt (x++w)=cnt w
 | [],w,_=>rfl
 |c::x,w,h=>by
  rw[List.cons_append,zpb (h c List.mem_cons_self)]
  exact zcH fun d hd=>h d (List.mem_cons_of_mem _ hd)
def zmj(w:List UInt8):Nat:=if clS.isPrefixOf w=true then 1 else 0
theorem zm4(w:List UInt8):cnt (10::w)=zmj w+cnt w:=by
 unfold zmj
 by_cases h:clS.isPrefixOf w=true
 ·rw[if_pos h]
  have hi:Go.Lib.index (10::w) zkj=((0:Nat):Int):=by
   unfold Go.Lib.index
   rw[if_pos];rfl
   show((10==10)&&clS.isPrefixOf w)=true
   rw[h];rfl
  obtain⟨t,ht⟩:∃ t,w=clS++t:=by
   obtain⟨t,ht⟩:=List.isPrefixOf_iff_prefix.1 h
   exact⟨t,ht.symm⟩
  have e1:cnt w=cnt t:=by
   rw[ht]
   exact zcH (by decide)
  rw[e1]
  unfold cnt
  rw[Go.Lib.count_hit (by simp) hi,ht]
  rfl
 ·rw[if_neg h,Nat.zero_add]
  exact zhD (by
   show((10==10)&&clS.isPrefixOf w)=false
   rw[Bool.eq_false_iff.2 h,Bool.and_false])
theorem zhU{n:Nat}(h:n<10):UInt8.ofNat (48+n)≠10:=by
 have key:((List.range 10).all fun n=>UInt8.ofNat (48+n) != 10)=true:=by kernel_rfl
 rw[List.all_eq_true] at key
 have:=key n (List.mem_range.2 h)
 intro q
 rw[q] at this
 cases this
theorem zjz:∀ (f n:Nat),∀ c ∈ zag f n,c≠10
 |0,n,c,h=>by cases h
 |f+1,n,c,h=>by
  unfold zag at h
  split at h
  ·rw[List.mem_singleton.1 h];exact zhU (by assumption)
  ·rcases List.mem_append.1 h with h|h
   ·exact zjz f _ c h
   ·rw[List.mem_singleton.1 h];exact zhU (by omega)
theorem zkl(l:List Nat):∀ c ∈ jb l,c≠10:=by
 intro c h
 obtain⟨n,_,h⟩:=List.mem_flatMap.1 h
 rcases List.mem_cons.1 h with rfl|h
 ·decide
 ·exact zjz 10 n c h
theorem zpk(b:UInt8):∀ c ∈ hx2 b,c≠10:=by
 have h:=zcm (p:=fun b=>(hx2 b).all (· != 10)) (by kernel_rfl) b
 rw[List.all_eq_true] at h
 intro c hc q
 have:=h c hc
 rw[q] at this
 cases this
theorem znV(l:List UInt8):∀ c ∈ zjL l,c≠10:=fun c h=>by
 obtain⟨b,_,h⟩:=List.mem_flatMap.1 h
 exact zpk b c h
theorem zkm{c:UInt8}(h:kb c=true):∀ d ∈ zig c,d≠10:=by
 have k:=zcm (p:=fun c=>!kb c||(zig c).all (· != 10)) (by kernel_rfl) c
 rw[h,Bool.not_true,Bool.false_or,List.all_eq_true] at k
 intro d hd q
 have:=k d hd
 rw[q] at this
 cases this
theorem ziX(l:List UInt8):∃ a x,wO l=(a::x)++[10]/\(a=62\/a=61)/\∀ c ∈ a::x,c≠10:=by
 unfold wO
 cases h:zb9 l with
 |none=>
  refine⟨61,32::zjL l,rfl,.inr rfl,fun c hc=>?_⟩
  rcases List.mem_cons.1 hc with rfl|hc
  ·decide
  ·rcases List.mem_cons.1 hc with rfl|hc
   ·decide
   ·exact znV l c hc
 |some q=>
  refine⟨62,32::q,rfl,.inl rfl,fun c hc=>?_⟩
  rcases List.mem_cons.1 hc with rfl|hc
  ·decide
  ·rcases List.mem_cons.1 hc with rfl|hc
   ·decide
   ·unfold zb9 at h
    split at h
    ·rename_i hall
     cases h
     rcases List.mem_append.1 hc with hc|hc
     ·rcases List.mem_append.1 hc with hc|hc
      ·rw[List.mem_singleton.1 hc];decide
      ·obtain⟨d,hd,hc⟩:=List.mem_flatMap.1 hc
       exact zkm (List.all_eq_true.1 hall d hd) c hc
     ·rw[List.mem_singleton.1 hc];decide
    ·cases h
theorem zor{a:UInt8}{w:List UInt8}(h:a=62\/a=61):zmj (a::w)=0:=by
 unfold zmj
 rw[if_neg]
 intro q
 have:((99==a)&&List.isPrefixOf [108,105,101,110,116,32] w)=true:=q
 rw[Bool.and_eq_true,beq_iff_eq] at this
 rcases h with rfl|rfl
 ·exact absurd this.1 (by decide)
 ·exact absurd this.1 (by decide)
theorem ze7(w:List UInt8):∀ ps:List (List UInt8),cnt (10::(jh ps++w))=zmj w+cnt w
 | []=>zm4 w
 |p::ps=>by
  obtain⟨a,x,e,ha,hx⟩:=ziX p
  have e2:jh (p::ps)++w=(a::x)++(10::(jh ps++w)):=by
   simp only[jh,List.flatMap_cons,e,List.append_assoc,List.cons_append,List.nil_append]
  rw[e2,zm4,List.cons_append,zor ha,Nat.zero_add,<- List.cons_append,zcH hx]
  exact ze7 w ps
theorem zju(E:List UInt8):∀ (l:List (List UInt8)) (k:Nat),zmj E=0->cnt E=0->cnt (zct k l++E)=l.length-1/\(l≠[]->zmj (zct k l++E)=1)
 | [],k,h1,h2=>⟨h2,fun h=>absurd rfl h⟩
 |b::l,k,h1,h2=>by
  obtain⟨i1,i2⟩:=zju E l (k+1) h1 h2
  have e:zct k (b::l)++E=([99,108,105,101,110,116]++jb [k])++(10::(jh ((spL b).take (zgc b))++(zct (k+1) l++E))):=by
   simp only[zct,kO,List.append_assoc,List.cons_append,List.nil_append]
  refine⟨?_,fun _=>?_⟩
  ·rw[e,zcH (fun c hc=>by
    rcases List.mem_append.1 hc with hc|hc
    ·exact(show ∀ c ∈ ([99,108,105,101,110,116]:List UInt8),c≠10 by decide) c hc
    ·exact zkl [k] c hc),ze7]
   cases l with
   |nil=>rw[i1];show zmj E+_=_;rw[h1];rfl
   |cons b2 l=>rw[i1,i2 (by simp)];simp only[List.length_cons];omega
  ·rw[e]
   unfold zmj
   rw[if_pos]
   rfl
theorem zia(out:List (List UInt8))(ns:List Nat):cnt (xo out ns)=out.length-1:=by
 unfold xo
 rw[List.append_assoc,List.append_assoc]
 refine(zju _ out 0 ?_ ?_).1
 ·rfl
 ·rw[<- List.append_assoc,zcH (fun c hc=>by
   rcases List.mem_append.1 hc with hc|hc
   ·exact(show ∀ c ∈ ([111,114,100,101,114]:List UInt8),c≠10 by decide) c hc
   ·exact zkl ns c hc)]
  rfl
def zo0(l:List (List UInt8)):Nat:=(l.map List.length).sum
theorem zmO{l:List (List UInt8)}{b:List UInt8}(h:b ∈ l):b.length<=zo0 l:=by
 induction l with
 |nil=>cases h
 |cons a l ih=>
  simp only[zo0,List.map_cons,List.sum_cons] at ih |-
  rcases List.mem_cons.1 h with rfl|h
  ·omega
  ·have:=ih h;omega
theorem zqk(p0:List (List UInt8))(p1:List Int)(out:List (List UInt8))(hl:out.length<=20)(hb:∀ b ∈ out,b.length<=140737488351232):∀ (m i n:Nat),i<=out.length->out.length<m+i->n<=140737488351232*i ->
  zm 200000 m p0 p1 ((n:Nat):Int) out ((out.length:Nat):Int) ((i:Nat):Int)=some (p0,p1,((n+zo0 (out.drop i):Nat):Int))
 |0,i,n,h1,h2,h3=>by omega
 |m+1,i,n,h1,h2,h3=>by
  unfold zm qm
  by_cases h:i<out.length
  ·have hbi:=hb _ (List.getElem_mem h)
   rw[decide_eq_true (by omega),cond_true,jW h,cond_true,Int.toNat_natCast,zmg h,wri (x:=((n:Nat):Int)+((out[i].length:Nat):Int)) (by omega) (by omega),wri (x:=((i:Nat):Int)+1) (by omega) (by omega),kS,
    show((n:Nat):Int)+((out[i].length:Nat):Int)=((n+out[i].length:Nat):Int) by omega,zqk p0 p1 out hl hb m (i+1) _ h (by omega) (by omega),List.drop_eq_getElem_cons h]
   simp only[zo0,List.map_cons,List.sum_cons,Nat.add_assoc]
  ·rw[decide_eq_false (by omega),cond_false,List.drop_of_length_le (by omega)]
   simp [zo0]
theorem zom{l:List Nat}{i:Nat}(h:i<l.length):nth (.int .u16) (ints l) i=((l[i]:Nat):Int):=by
 unfold nth ints
 rw[List.getD_eq_getElem?_getD,List.getElem?_map,List.getElem?_eq_getElem h];rfl
theorem zm7(p0:List (List UInt8))(ns:List Nat)(hb:∀ n ∈ ns,n<65536)(hl:ns.length<=1000):∀ (m i:Nat) (acc:List Int),i<=ns.length->ns.length<m+i->acc.length<=i ->
  zn 200000 m p0 (ints ns) ((ns.length:Nat):Int) ((i:Nat):Int) acc=some (p0,acc++ints (ns.drop i))
 |0,i,acc,h1,h2,h3=>by omega
 |m+1,i,acc,h1,h2,h3=>by
  unfold zn qo
  by_cases h:i<ns.length
  ·have hn:=hb _ (List.getElem_mem h)
   rw[decide_eq_true (by omega),cond_true,List.length_map,jW h,cond_true,ju (by omega),cond_true,Int.toNat_natCast,zom h,wri (x:=((ns[i]:Nat):Int)) (by omega) (by omega),wri (x:=((i:Nat):Int)+1) (by omega) (by omega),kS,
    zm7 p0 ns hb hl m (i+1) _ h (by omega) (by simp only[List.length_append,List.length_cons,List.length_nil];omega),List.drop_eq_getElem_cons h]
   simp only[ints,List.map_cons,List.append_assoc,List.cons_append,List.nil_append]
  ·rw[decide_eq_false (by omega),cond_false,List.drop_of_length_le (by omega)]
   simp [ints]
theorem zlr(z:Int)(h1:0<=z)(h2:z<=65535):z=((z.toNat:Nat):Int)/\z.toNat<65536:=by omega
theorem zgY(x:El (zba [.sl (.sl .u8),.sl (.int .u16)]))(hw:Wf (zba [.sl (.sl .u8),.sl (.int .u16)]) x):∃ N,zy N x.1 x.2.1=some (true,()):=by
 obtain⟨out,p1,⟨⟩⟩:=x
 obtain⟨⟨ho1,ho2⟩,⟨hp1,hp2⟩,_⟩:=hw
 refine⟨200000,?_⟩
 show zy 200000 out p1=_
 unfold zy
 by_cases k1:(20:Int)<((out.length:Nat):Int)
 ·rw[decide_eq_true k1];rfl
 rw[decide_eq_false k1,cond_false]
 by_cases k2:(100:Int)<((p1.length:Nat):Int)
 ·rw[decide_eq_true k2];rfl
 rw[decide_eq_false k2,cond_false]
 have hbo:∀ b ∈ out,b.length<=140737488351232:=fun b hb=>(ho2 b hb).1
 have hs:=zqk out p1 out (by omega) hbo 200000 0 0 (Nat.zero_le _) (by omega) (by omega)
 rw[show((0:Nat):Int)=0 from rfl,Nat.zero_add,List.drop_zero] at hs
 rw[hs,Option.bind_some]
 dsimp only
 by_cases k3:(4000:Int)<((zo0 out:Nat):Int)
 ·rw[decide_eq_true k3];rfl
 rw[decide_eq_false k3,cond_false]
 have hb:∀ b ∈ out,b.length<=5000:=fun b h=>by have:=zmO h;omega
 obtain⟨ns,rfl,hns⟩:∃ ns:List Nat,p1=ints ns/\∀ n ∈ ns,n<65536:=by
  refine⟨p1.map Int.toNat,?_,fun n hn=>?_⟩
  ·unfold ints
   rw[List.map_map]
   conv=>lhs;rw[<- List.map_id p1]
   refine List.map_congr_left fun z hz=>?_
   exact(zlr z (hp2 z hz).1 (hp2 z hz).2).1
  ·obtain⟨z,hz,rfl⟩:=List.mem_map.1 hn
   exact(zlr z (hp2 z hz).1 (hp2 z hz).2).2
 rw[List.length_map] at k2
 have hi:=zm7 out ns hns (by omega) 200000 0 [] (Nat.zero_le _) (by omega) (Nat.le_refl _)
 rw[show((0:Nat):Int)=0 from rfl,List.drop_zero,List.nil_append] at hi
 rw[List.length_map,hi,Option.bind_some]
 dsimp only
 rw[zky out hb (by omega) ns hns (by omega),Option.bind_some]
 dsimp only
 rw[Option.bind_some,cond_true,ziN out hb (by omega) ns hns (by omega),Option.bind_some]
 dsimp only
 have hr:=zcu (k:=0) hb
 have hwn:=wD ns
 have hlen:(xo out ns).length<=2000000000:=by
  unfold xo
  simp only[List.length_append,List.length_cons,List.length_nil]
  omega
 rw[beq_self_eq_true,cond_true,show Nat.ble (xo out ns).length jG=true by rw[Nat.ble_eq];unfold jG;omega,cond_true]
 have hc:Go.Lib.count (xo out ns) [10,99,108,105,101,110,116,32]=out.length-1:=zia out ns
 rw[hc,wri (by omega) (by omega)]
 congr 2
 rw[beq_iff_eq]
 split<;>omega
end Go.Proofs.Model
