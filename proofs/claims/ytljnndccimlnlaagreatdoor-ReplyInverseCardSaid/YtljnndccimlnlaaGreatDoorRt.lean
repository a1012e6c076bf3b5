/- The program's Parse: a form is read back, and the reader always comes to an end. -/
import Derived.Test.YtljnndccimlnlaaGreatDoorRs
set_option linter.unusedVariables false
set_option linter.unusedSimpArgs false
set_option linter.unusedSectionVars false
set_option maxRecDepth 100000
namespace Go.Proofs.Model
open Go Go.Gx Go.Mx Go.Sx
section
variable {b:List UInt8} (hb:b.length<=100000) {p1:Int} (hp:0<=p1/\p1<4294967296)
include hb hp
end
def zj6:List (List UInt8×Int):=[(([79,75,32]:List UInt8),(6:Int)),(([66,89,69,32]:List UInt8),(7:Int)),(([66,65,68,32]:List UInt8),(8:Int))]
def zj3:List (List UInt8):=[([]:List UInt8),([69,88,73,83,84,83]:List UInt8),([82,69,67,69,78,84]:List UInt8),([69,88,80,85,78,71,69]:List UInt8)]
abbrev R18:=Option (((List UInt8)×(Int)×(Int)×(List UInt8)×(UInt8)×(List ((List UInt8)×Int))) ⊕ ((List UInt8)×(Int)×(UInt8)×(List ((List UInt8)×Int))))
def zl7(k:Int)(s:RSt):R18:=Option.bind (zA 200000 s [13,10]) fun z=>some (Sum.inl (z.1.1,z.1.2,k,z.2.1,0,zj6))
theorem zuo(m:Nat)(b:List UInt8)(i:Int):zi 200000 (m+1) 0 b i 0 zj6=(Option.bind (za 200000 (b,i) [79,75,32]) fun y=>cond y.2.1 (zl7 6 y.1) (zi 200000 m 1 y.1.1 y.1.2 0 zj6)):=by kernel_rfl
theorem zrs(m:Nat)(b:List UInt8)(i:Int):zi 200000 (m+1) 1 b i 0 zj6=(Option.bind (za 200000 (b,i) [66,89,69,32]) fun y=>cond y.2.1 (zl7 7 y.1) (zi 200000 m 2 y.1.1 y.1.2 0 zj6)):=by kernel_rfl
theorem zup(m:Nat)(b:List UInt8)(i:Int):zi 200000 (m+1) 2 b i 0 zj6=(Option.bind (za 200000 (b,i) [66,65,68,32]) fun y=>cond y.2.1 (zl7 8 y.1) (zi 200000 m 3 y.1.1 y.1.2 0 zj6)):=by kernel_rfl
theorem zwg(m:Nat)(b:List UInt8)(i:Int):zi 200000 (m+1) 3 b i 0 zj6=some (Sum.inr (b,i,0,zj6)):=by kernel_rfl
theorem zuq(m:Nat)(n:Int)(b:List UInt8)(i:Int):ze 200000 (m+1) n 0 b i 0 zj3=ze 200000 m n 1 b i 0 zj3:=by kernel_rfl
theorem zur(m:Nat)(n:Int)(b:List UInt8)(i:Int):ze 200000 (m+1) n 1 b i 0 zj3=(Option.bind (za 200000 (b,i) [69,88,73,83,84,83]) fun y=>cond y.2.1 (some (Sum.inl (y.1.1,y.1.2,1,n,0,zj3))) (ze 200000 m n 2 y.1.1 y.1.2 0 zj3)):=by kernel_rfl
theorem zrt(m:Nat)(n:Int)(b:List UInt8)(i:Int):ze 200000 (m+1) n 2 b i 0 zj3=(Option.bind (za 200000 (b,i) [82,69,67,69,78,84]) fun y=>cond y.2.1 (some (Sum.inl (y.1.1,y.1.2,2,n,0,zj3))) (ze 200000 m n 3 y.1.1 y.1.2 0 zj3)):=by kernel_rfl
theorem zus(m:Nat)(n:Int)(b:List UInt8)(i:Int):ze 200000 (m+1) n 3 b i 0 zj3=(Option.bind (za 200000 (b,i) [69,88,80,85,78,71,69]) fun y=>cond y.2.1 (some (Sum.inl (y.1.1,y.1.2,3,n,0,zj3))) (ze 200000 m n 4 y.1.1 y.1.2 0 zj3)):=by kernel_rfl
theorem zwi(m:Nat)(n:Int)(b:List UInt8)(i:Int):ze 200000 (m+1) n 4 b i 0 zj3=some (Sum.inr (n,b,i,0,zj3)):=by kernel_rfl
theorem zcI(s:RSt):zB 200000 s=Option.bind (zi 200000 200000 0 s.1 s.2 0 zj6) fun o=>zn o (fun a=>some ((a.1,a.2.1),(a.2.2.1,(0,([],(0,(a.2.2.2.1,(0,(a.2.2.2.2.1,(0,(0,[]))))))))),())) (fun c=>Option.bind (za 200000 (c.1,c.2.1) [70,76,65,71,83,32]) fun y28=>cond y28.2.1 (some (y28.1,zj8 5 0,())) (Option.bind (zr 200000 y28.1) fun y29=>cond (!y29.2.2.1) (zro y29.1) (Option.bind (za 200000 y29.1 [32]) fun y30=>cond (!y30.2.1) (zro y30.1)
 (Option.bind (ze 200000 200000 y29.2.1 0 y30.1.1 y30.1.2 c.2.2.1 zj3) fun o=>zn o (fun a=>some ((a.1,a.2.1),(a.2.2.1,(a.2.2.2.1,([],(0,([],(0,(a.2.2.2.2.1,(0,(0,[]))))))))),())) (fun c=>Option.bind (za 200000 (c.2.1,c.2.2.1) [70,69,84,67,72,32,40]) fun y=>cond y.2.1 (Option.bind (zV 200000 y.1 c.1) fun z=>some (z.1,z.2.1,())) (zro y.1)))))):=by kernel_rfl
section
variable {b:List UInt8} (hb:b.length<=100000)
include hb
end
end Go.Proofs.Model
