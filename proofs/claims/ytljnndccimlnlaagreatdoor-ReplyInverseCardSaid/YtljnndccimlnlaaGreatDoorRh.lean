/- The forms of responses. -/
import Derived.Test.YtljnndccimlnlaaGreatDoorRg
set_option linter.unusedVariables false
set_option linter.unusedSimpArgs false
set_option maxRecDepth 100000
namespace Go.Proofs.Model
open Go Go.Gx Go.Mx Go.Sx
def ze9(b:List UInt8):List UInt8:=[123]++dec b.length++[125,13,10]++b
theorem xL{a b:Nat}(h:a+b<4611686018427387904):decide (a+b<4611686018427387904)=true:=decide_eq_true h
theorem zbe{a:Nat}(h:a<549755813888):Nat.blt a kg=true:=by rw[Nat.blt_eq];exact h
theorem zrv(b:List UInt8)(hb:b.length<=100000):km 200000 b=some (ze9 b,()):=by
 unfold km ze9
 have hd:=wF b.length
 rw[znH (by omega),zbG 200000 b.length (by omega) (by omega)]
 simp only[Option.bind_some]
 generalize dec b.length=d at hd |-
 simp (disch:=(simp only[List.length_append,List.length_cons,List.length_nil];omega)) only[xL,cond_true]
 have hH:((([123]:List UInt8)++d)++([125]:List UInt8))++([13,10]:List UInt8)=[123]++d++[125,13,10]:=by simp
 rw[hH]
 have hl:([123]++d++[125,13,10]:List UInt8).length=d.length+4:=by simp
 generalize([123]++d++[125,13,10]:List UInt8)=H at hl |-
 rw[wri (by omega) (by omega),show((H.length:Int)+(b.length:Int))=((H.length+b.length:Nat):Int) by omega]
 simp only[Int.toNat_natCast,List.length_replicate]
 rw[decide_eq_true (show((H.length+b.length:Nat):Int)<=((H.length+b.length:Nat):Int) by omega),decide_eq_true (show(0:Int)<=((H.length+b.length:Nat):Int) by omega),decide_eq_true (show((H.length+b.length:Nat):Int)<(549755813888:Int) by omega)]
 simp only[Bool.true_or,Bool.and_self,cond_true]
 rw[List.take_of_length_le (show H.length<=H.length+b.length by omega),Nat.min_eq_left (show H.length<=H.length+b.length by omega)]
 have hu:zas (List.replicate (H.length+b.length) (0:UInt8)) 0 H=H++List.replicate b.length 0:=by
  unfold zas
  rw[List.take_zero,List.nil_append,Nat.zero_add,List.drop_replicate,Nat.add_sub_cancel_left]
 rw[hu]
 rw[ki (show H.length<=(H++List.replicate b.length (0:UInt8)).length by simp) (Nat.le_refl _)]
 simp only[Bool.and_self,cond_true]
 have hv:zas (H++List.replicate b.length (0:UInt8)) H.length (List.take ((H++List.replicate b.length (0:UInt8)).length-H.length) b)=H++b:=by
  unfold zas
  rw[List.length_append,List.length_replicate,Nat.add_sub_cancel_left,List.take_length,List.take_left,List.drop_append,List.drop_of_length_le (by omega)]
  simp
 rw[hv]
theorem zaV(f:UInt8)(h:f<=31):xJ 200000 f=some (flB f++[41],())/\kz 200000 f.toNat=some (flB f++[41],())/\wK 200000 (flB f++[41])=some (f,true,())/\wR 200000 (flB f++[41])=some ((f.toNat:Int),())/\(∀ x ∈ flB f,x≠41)/\(flB f).length<=60:=by
 have:=zv5 f
 unfold zue at this
 rw[show decide (31<f)=false by rw[decide_eq_false_iff_not,UInt8.not_lt];exact h] at this
 simp only[Bool.false_or,Bool.and_eq_true] at this
 obtain⟨h1,h2,h3,h4,h5,h6⟩:=this
 refine⟨ztj h1,ztj h2,zwd h3,zwe h4,fun x hx=>?_,by rw[Nat.ble_eq] at h6;exact h6⟩
 have:=List.all_eq_true.1 h5 x hx
 exact bne_iff_ne.1 this
def pF(fl:UInt8):List UInt8:=[70,76,65,71,83,32]++(flB fl++[41])
def pU(uid:Nat):List UInt8:=[85,73,68,32]++dec uid
def pS(sz:Nat):List UInt8:=[82,70,67,56,50,50,46,83,73,90,69,32]++dec sz
def pB(body:List UInt8):List UInt8:=[66,79,68,89,91,93,32]++ze9 body
def zf8(b1 b2 b4 b16:Bool)(fl:UInt8)(uid sz:Nat)(body:List UInt8):List (List UInt8):=(cond b1 [pF fl] [])++((cond b2 [pU uid] [])++((cond b4 [pS sz] [])++(cond b16 [pB body] [])))
def j6(b1 b2 b4 b16:Bool)(fl:UInt8)(uid sz:Nat)(body:List UInt8):List UInt8:=Go.Lib.join (zf8 b1 b2 b4 b16 fl uid sz body) [32]
def ju:Rsp->List UInt8:=fun r=>
 if r.1=1 then[42,32]++dec r.2.1.toNat++[32,69,88,73,83,84,83]++[13,10]
 else if r.1=2 then[42,32]++dec r.2.1.toNat++[32,82,69,67,69,78,84]++[13,10]
 else if r.1=3 then[42,32]++dec r.2.1.toNat++[32,69,88,80,85,78,71,69]++[13,10]
 else if r.1=4 then[42,32]++dec r.2.1.toNat++[32,70,69,84,67,72,32,40]++j6 (bI r.2.2.2.2.2.1 1) (bI r.2.2.2.2.2.1 2) (bI r.2.2.2.2.2.1 4) (bI r.2.2.2.2.2.1 16) r.2.2.2.2.2.2.1 r.2.2.2.2.2.2.2.1.toNat r.2.2.2.2.2.2.2.2.1.toNat r.2.2.2.2.2.2.2.2.2++[41]++[13,10]
 else if r.1=5 then[42,32,70,76,65,71,83,32]++(flB 31++[41])++[13,10]
 else if r.1=6 then[42,32,79,75,32]++r.2.2.2.2.1++[13,10]
 else if r.1=7 then[42,32,66,89,69,32]++r.2.2.2.2.1++[13,10]
 else if r.1=8 then[42,32,66,65,68,32]++r.2.2.2.2.1++[13,10]
 else if r.1=9 then r.2.2.1++[32]++(if r.2.2.2.1=0 then[79,75] else if r.2.2.2.1=1 then[78,79] else[66,65,68])++[32]++r.2.2.2.2.1++[13,10]
 else[43,32]++r.2.2.2.2.1++[13,10]
def Rng(r:Rsp):Prop:=(0<=r.2.1/\(r.2.1:Int)<4294967296)/\(0<=r.2.2.2.2.2.2.2.1/\(r.2.2.2.2.2.2.2.1:Int)<4294967296)/\(0<=r.2.2.2.2.2.2.2.2.1/\(r.2.2.2.2.2.2.2.2.1:Int)<4294967296)
end Go.Proofs.Model
