/- The machines and the plain laws, part 6. -/
import Derived.Test.YtlfojfedfhpoiaaGreatDoorB5
import Derived.KernelRfl
open Go.IntKind renaming wrap->ya,bits->yj
open List renaming length->yb,getElem?_eq_getElem->yg,length_drop->yk,nil_append->yo,set->yr,cons_append->yw,drop_eq_nil_of_le->yy,take_succ_cons->yz,append_assoc->yA,drop_zero->yD,set_cons_succ->yE,set_cons_zero->yF,getElem?_eq_some_iff->yG,length_take->yH,take_zero->yI,getElem?_drop->yJ,getElem?_eq_none->yK,all_eq_true->yM,mem_range->yO,length_cons->yP,append_nil->yQ,range->yR,getLast?_eq_getElem?->yX,length_eq_zero_iff->yZ,getElem?_set_ne->vg,isPrefixOf->vm
open Int renaming toNat->yc,toNat_natCast->yf,tmod->yi,tdiv->yp,fdiv->yu
open Option renaming bind->yd,bind_some->ye,map_some->yW
open UInt8 renaming ofNat->yh,toNat->ym,lt_iff_toNat_lt->vd
open Bool renaming not_true->yn,and_true->yv,not_false->yx,false_eq_true->yC,true_and->yY,and_eq_true->vk
open Nat renaming blt->yq,le_refl->yB,zero_le->yL,sub_zero->yN,ble->yS,le_of_ble_eq_true->yT,zero_add->yU,le_trans->yV,pow_succ->ve,pow_le_pow_right->vh,mul_le_mul_left->vi,lt_of_lt_of_le->vj,lt_trichotomy->vl
set_option linter.unusedVariables false
set_option maxRecDepth 100000
set_option linter.unusedSectionVars false
set_option linter.unusedSimpArgs false
namespace Go.Proofs.Model
open Go Go.Gx Go.Mx Go.Sx
@[reducible] def uS1:U:=(.pair (.int .i64) (.pair .str (.int .i64)))
@[reducible] def uS2:U:=(.pair .str (.pair (.int .i64) (.pair .str (.pair (.sl (.pair (.int .u32) (.int .u32))) (.pair (.int .i64) (.pair (.int .i64) (.pair .bool (.pair .u8 (.sl .u8)))))))))
def zq0:List UInt8:=[0,1,2,2,3,3,3,3,4,4,4,4,4,4,4,4,5,5,5,5,5,5,5,5,5,5,5,5,5,5,5,5,6,6,6,6,6,6,6,6,6,6,6,6,6,6,6,6,6,6,6,6,6,6,6,6,6,6,6,6,6,6,6,6,7,7,7,7,7,7,7,7,7,7,7,7,7,7,7,7,7,7,7,7,7,7,7,7,7,7,7,7,7,7,7,7,7,7,7,7,7,7,7,7,7,7,7,7,7,7,7,7,7,7,7,7,7,7,7,7,7,7,7,7,7,7,7,7,8,8,8,8,8,8,8,8,8,8,8,8,8,8,8,8,8,8,8,8,8,8,8,8,8,8,8,8,8,8,8,8,8,8,8,8,8,8,8,8,8,8,8,8,8,8,8,8,8,8,8,8,8,8,8,8,8,8,8,8,8,8,8,8,8,8,8,8,8,8,8,8,8,8,8,8,8,8,8,8,8,8,8,8,8,8,8,8,8,8,8,8,8,8,8,8,8,8,8,8,8,8,8,8,8,8,8,8,8,8,8,8,8,8,8,8,8,8,8,8,8,8,8,8,8,8,8,8]
def zcL:List UInt8:=[48,48,48,49,48,50,48,51,48,52,48,53,48,54,48,55,48,56,48,57,49,48,49,49,49,50,49,51,49,52,49,53,49,54,49,55,49,56,49,57,50,48,50,49,50,50,50,51,50,52,50,53,50,54,50,55,50,56,50,57,51,48,51,49,51,50,51,51,51,52,51,53,51,54,51,55,51,56,51,57,52,48,52,49,52,50,52,51,52,52,52,53,52,54,52,55,52,56,52,57,53,48,53,49,53,50,53,51,53,52,53,53,53,54,53,55,53,56,53,57,54,48,54,49,54,50,54,51,54,52,54,53,54,54,54,55,54,56,54,57,55,48,55,49,55,50,55,51,55,52,55,53,55,54,55,55,55,56,55,57,56,48,56,49,56,50,56,51,56,52,56,53,56,54,56,55,56,56,56,57,57,48,57,49,57,50,57,51,57,52,57,53,57,54,57,55,57,56,57,57]
def js(N:Nat)(p0:(List UInt8))(p1:UInt8):Option (Int×Unit):=
 (some ((jI p1 p0 0),()))
def zb5(N:Nat)(p0:UInt8):Option (Bool×Unit):=
 (cond (decide (32<p0)) (cond (decide (p0<=126)) (cond (decide (((ym (zsd p0 6):Nat):Int)=0)) (cond (decide (0<=((ym (p0 &&& 63):Nat):Int))) (some ((!((zaf .and .u64 (yu 7851200217088 (2 ^ (min (yc ((ym (p0 &&& 63):Nat):Int)) (yj .u64)))) 1)==1)),())) none) (cond (decide (((ym (zsd p0 6):Nat):Int)=1)) (cond (decide (0<=((ym (p0 &&& 63):Nat):Int))) (some ((!((zaf .and .u64 (yu 576460753108729856 (2 ^ (min (yc ((ym (p0 &&& 63):Nat):Int)) (yj .u64)))) 1)==1)),())) none) (cond (decide (((ym (zsd p0 6):Nat):Int)=2)) (cond (decide (0<=((ym (p0 &&& 63):Nat):Int))) (some ((!((zaf .and .u64 (yu 0 (2 ^ (min (yc ((ym (p0 &&& 63):Nat):Int)) (yj .u64)))) 1)==1)),())) none) (cond (decide (((ym (zsd p0 6):Nat):Int)=3)) (cond (decide (0<=((ym (p0 &&& 63):Nat):Int))) (some ((!((zaf .and .u64 (yu 0 (2 ^ (min (yc ((ym (p0 &&& 63):Nat):Int)) (yj .u64)))) 1)==1)),())) none) none)))) (some (false,()))) (some (false,())))
def zdc(N:Nat)(p0:UInt8):Option (Bool×Unit):=
 (cond (p0==93) (some (true,())) (cond (p0 != 43) (yd (zb5 N p0) fun y1=>(some (y1.1,()))) (some (false,()))))
def zbG(N:Nat){R:Type}(x8:List UInt8)(x9:Int)(x10:Int)(rec_:(List UInt8)->(Int)->(Int)->Option R)(o0:Unit->Option R)(o1:Unit->Option R):Option R:=
 (cond (decide (x10<x9)) (cond (inb x10 (yb x8)) (yd (zdc N (nth .u8 x8 (yc x10))) fun y13=>(cond (!y13.1) (o0 ()) (rec_ x8 x9 (ya .i64 (x10+1))))) none) (o1 ()))
def jw(N:Nat):Nat->(List UInt8)->(Int)->(Int)->Option ((Unit) ⊕ (Unit))
 |0,_,_,_=>none
 |m+1,x8,x9,x10=>zbG N x8 x9 x10 (jw N m) (fun _=>some (Sum.inl ())) (fun _=>some (Sum.inr ()))
def zb8(N:Nat)(p0:(List UInt8)):Option ((List UInt8)×Int×Bool×Unit):=
 (yd (js N p0 32) fun y1=>(cond (decide (y1.1<1)) (some ([],0,false,())) (cond ((qZ 0 y1.1 (yb p0))&&true) (cond ((slice p0 0 (yc y1.1)) != []) (yd (jw N N (slice p0 0 (yc y1.1)) (((yb (slice p0 0 (yc y1.1))):Nat):Int) 0) fun o18=>(zi o18 (fun a19=>(some ([],0,false,()))) (fun b20=>(cond ((qZ 0 y1.1 (yb p0))&&true) (some ((slice p0 0 (yc y1.1)),(ya .i64 (y1.1+1)),true,())) none)))) (some ([],0,false,()))) none)))
def kQ(N:Nat)(p0:UInt8):Option (Bool×Unit):=
 (cond (p0 != 0) (cond (decide (p0<128)) (cond (p0 != 13) (some ((p0 != 10),())) (some (false,()))) (some (false,()))) (some (false,())))
def wX(N:Nat){R:Type}(x18:List UInt8)(x19:Int)(x20:List UInt8)(rec_:(List UInt8)->(Int)->(List UInt8)->Option R)(o0:(Bool)->(List UInt8)->(Int)->(List UInt8)->Option R):Option R:=
 (cond (decide (x19<0)) (o0 false x18 x19 x20) (cond (decide ((((yb x18):Nat):Int)<=x19)) (o0 false x18 x19 x20) (cond (inb (ya .i64 ((ya .i64 (x19+1))-1)) (yb x18)) (cond ((nth .u8 x18 (yc (ya .i64 ((ya .i64 (x19+1))-1))))==34) (o0 true x18 (ya .i64 (x19+1)) x20) (cond ((nth .u8 x18 (yc (ya .i64 ((ya .i64 (x19+1))-1))))==92) (cond (decide ((ya .i64 (x19+1))<0)) (o0 false x18 (ya .i64 (x19+1)) x20) (cond (decide ((((yb x18):Nat):Int)<=(ya .i64 (x19+1)))) (o0 false x18 (ya .i64 (x19+1)) x20) (cond (inb (ya .i64 ((ya .i64 ((ya .i64 (x19+1))+1))-1)) (yb x18)) (cond ((nth .u8 x18 (yc (ya .i64 ((ya .i64 ((ya .i64 (x19+1))+1))-1)))) != 34) (cond ((nth .u8 x18 (yc (ya .i64 ((ya .i64 ((ya .i64 (x19+1))+1))-1)))) != 92) (o0 false x18 (ya .i64 ((ya .i64 (x19+1))+1)) x20) (yd (kQ N (nth .u8 x18 (yc (ya .i64 ((ya .i64 ((ya .i64 (x19+1))+1))-1))))) fun y25=>(cond (!y25.1) (o0 false x18 (ya .i64 ((ya .i64 (x19+1))+1)) x20) (cond (yq ((yb x20)+1) qc) (rec_ x18 (ya .i64 ((ya .i64 (x19+1))+1)) (x20++([(nth .u8 x18 (yc (ya .i64 ((ya .i64 ((ya .i64 (x19+1))+1))-1))))]:List UInt8))) none)))) (yd (kQ N (nth .u8 x18 (yc (ya .i64 ((ya .i64 ((ya .i64 (x19+1))+1))-1))))) fun y26=>(cond (!y26.1) (o0 false x18 (ya .i64 ((ya .i64 (x19+1))+1)) x20) (cond (yq ((yb x20)+1) qc) (rec_ x18 (ya .i64 ((ya .i64 (x19+1))+1)) (x20++([(nth .u8 x18 (yc (ya .i64 ((ya .i64 ((ya .i64 (x19+1))+1))-1))))]:List UInt8))) none)))) none))) (yd (kQ N (nth .u8 x18 (yc (ya .i64 ((ya .i64 (x19+1))-1))))) fun y27=>(cond (!y27.1) (o0 false x18 (ya .i64 (x19+1)) x20) (cond (yq ((yb x20)+1) qc) (rec_ x18 (ya .i64 (x19+1)) (x20++([(nth .u8 x18 (yc (ya .i64 ((ya .i64 (x19+1))-1))))]:List UInt8))) none))))) none)))
def zW(N:Nat):Nat->(List UInt8)->(Int)->(List UInt8)->Option ((Bool)×(List UInt8)×(Int)×(List UInt8))
 |0,_,_,_=>none
 |m+1,x18,x19,x20=>wX N x18 x19 x20 (zW N m) (fun v0 v1 v2 v3=>some (v0,v1,v2,v3))
def jY(N:Nat)(p0:(List UInt8))(p1:Int):Option ((List UInt8)×Int×Bool×Unit):=
 (cond (decide (p1<0)) (some ([],0,false,())) (cond (decide ((((yb p0):Nat):Int)<=p1)) (some ([],0,false,())) (cond (inb (ya .i64 ((ya .i64 (p1+1))-1)) (yb p0)) (cond (!((nth .u8 p0 (yc (ya .i64 ((ya .i64 (p1+1))-1))))==34)) (some ([],0,false,())) (yd (zW N N p0 (ya .i64 (p1+1)) []) fun o28=>(cond (!o28.1) (some ([],0,false,())) (some (o28.2.2.2,o28.2.2.1,true,()))))) none)))
def kA(N:Nat)(p0:Int):Option ((List UInt8)×Unit):=
 (cond (decide (p0<10)) (cond (qZ p0 (ya .i64 (p0+1)) 36) (some ((slice [48,49,50,51,52,53,54,55,56,57,97,98,99,100,101,102,103,104,105,106,107,108,109,110,111,112,113,114,115,116,117,118,119,120,121,122] (yc p0) (yc (ya .i64 (p0+1)))),())) none) (cond (qZ (ya .i64 (p0*2)) (ya .i64 ((ya .i64 (p0*2))+2)) 200) (some ((slice [48,48,48,49,48,50,48,51,48,52,48,53,48,54,48,55,48,56,48,57,49,48,49,49,49,50,49,51,49,52,49,53,49,54,49,55,49,56,49,57,50,48,50,49,50,50,50,51,50,52,50,53,50,54,50,55,50,56,50,57,51,48,51,49,51,50,51,51,51,52,51,53,51,54,51,55,51,56,51,57,52,48,52,49,52,50,52,51,52,52,52,53,52,54,52,55,52,56,52,57,53,48,53,49,53,50,53,51,53,52,53,53,53,54,53,55,53,56,53,57,54,48,54,49,54,50,54,51,54,52,54,53,54,54,54,55,54,56,54,57,55,48,55,49,55,50,55,51,55,52,55,53,55,54,55,55,55,56,55,57,56,48,56,49,56,50,56,51,56,52,56,53,56,54,56,55,56,56,56,57,57,48,57,49,57,50,57,51,57,52,57,53,57,54,57,55,57,56,57,57] (yc (ya .i64 (p0*2))) (yc (ya .i64 ((ya .i64 (p0*2))+2)))),())) none))
def wj(N:Nat)(p0:Int):Option (Int×Unit):=
 (cond (decide (4294967296<=p0)) (cond (decide (65536<=(yu p0 (2 ^ (min (yc 32) (yj .u64)))))) (cond (decide (256<=(yu (yu p0 (2 ^ (min (yc 32) (yj .u64)))) (2 ^ (min (yc 16) (yj .u64)))))) (cond (inb ((ym (zbv (yu (yu (yu p0 (2 ^ (min (yc 32) (yj .u64)))) (2 ^ (min (yc 16) (yj .u64)))) (2 ^ (min (yc 8) (yj .u64))))):Nat):Int) 256) (some ((ya .i64 (56+(ya .i64 ((ym (nth .u8 zq0 (yc ((ym (zbv (yu (yu (yu p0 (2 ^ (min (yc 32) (yj .u64)))) (2 ^ (min (yc 16) (yj .u64)))) (2 ^ (min (yc 8) (yj .u64))))):Nat):Int))):Nat):Int)))),())) none) (cond (inb ((ym (zbv (yu (yu p0 (2 ^ (min (yc 32) (yj .u64)))) (2 ^ (min (yc 16) (yj .u64))))):Nat):Int) 256) (some ((ya .i64 (48+(ya .i64 ((ym (nth .u8 zq0 (yc ((ym (zbv (yu (yu p0 (2 ^ (min (yc 32) (yj .u64)))) (2 ^ (min (yc 16) (yj .u64))))):Nat):Int))):Nat):Int)))),())) none)) (cond (decide (256<=(yu p0 (2 ^ (min (yc 32) (yj .u64)))))) (cond (inb ((ym (zbv (yu (yu p0 (2 ^ (min (yc 32) (yj .u64)))) (2 ^ (min (yc 8) (yj .u64))))):Nat):Int) 256) (some ((ya .i64 (40+(ya .i64 ((ym (nth .u8 zq0 (yc ((ym (zbv (yu (yu p0 (2 ^ (min (yc 32) (yj .u64)))) (2 ^ (min (yc 8) (yj .u64))))):Nat):Int))):Nat):Int)))),())) none) (cond (inb ((ym (zbv (yu p0 (2 ^ (min (yc 32) (yj .u64))))):Nat):Int) 256) (some ((ya .i64 (32+(ya .i64 ((ym (nth .u8 zq0 (yc ((ym (zbv (yu p0 (2 ^ (min (yc 32) (yj .u64))))):Nat):Int))):Nat):Int)))),())) none))) (cond (decide (65536<=p0)) (cond (decide (256<=(yu p0 (2 ^ (min (yc 16) (yj .u64)))))) (cond (inb ((ym (zbv (yu (yu p0 (2 ^ (min (yc 16) (yj .u64)))) (2 ^ (min (yc 8) (yj .u64))))):Nat):Int) 256) (some ((ya .i64 (24+(ya .i64 ((ym (nth .u8 zq0 (yc ((ym (zbv (yu (yu p0 (2 ^ (min (yc 16) (yj .u64)))) (2 ^ (min (yc 8) (yj .u64))))):Nat):Int))):Nat):Int)))),())) none) (cond (inb ((ym (zbv (yu p0 (2 ^ (min (yc 16) (yj .u64))))):Nat):Int) 256) (some ((ya .i64 (16+(ya .i64 ((ym (nth .u8 zq0 (yc ((ym (zbv (yu p0 (2 ^ (min (yc 16) (yj .u64))))):Nat):Int))):Nat):Int)))),())) none)) (cond (decide (256<=p0)) (cond (inb ((ym (zbv (yu p0 (2 ^ (min (yc 8) (yj .u64))))):Nat):Int) 256) (some ((ya .i64 (8+(ya .i64 ((ym (nth .u8 zq0 (yc ((ym (zbv (yu p0 (2 ^ (min (yc 8) (yj .u64))))):Nat):Int))):Nat):Int)))),())) none) (cond (inb ((ym (zbv p0):Nat):Int) 256) (some ((ya .i64 (0+(ya .i64 ((ym (nth .u8 zq0 (yc ((ym (zbv p0):Nat):Int))):Nat):Int)))),())) none))))
def wQ(N:Nat)(p0:Int):Option (Int×Unit):=
 (some ((yu (ya .i64 (p0*78913)) (2 ^ (min (yc 18) (yj .i64)))),()))
def wO(N:Nat)(p0:Bool):Option (Int×Unit):=
 (cond p0 (some (1,())) (some (0,())))
def zv(N:Nat)(p0:Int):Option (Int×Unit):=
 (yd (wj N p0) fun y1=>(yd (wQ N y1.1) fun y2=>(cond ((inb y2.1 20)&&(inb y2.1 20)) (yd (wO N (decide ((nth (.int .u64) ([1,10,100,1000,10000,100000,1000000,10000000,100000000,1000000000,10000000000,100000000000,1000000000000,10000000000000,100000000000000,1000000000000000,10000000000000000,100000000000000000,1000000000000000000,10000000000000000000]:List Int) (yc y2.1))<=p0))) fun y3=>(some ((ya .i64 (y2.1+y3.1)),()))) none)))
def zw(N:Nat){R:Type}(x3:Nat)(x4:Nat)(x5:Int)(x6:Int)(x7:List UInt8)(rec_:(Nat)->(Nat)->(Int)->(Int)->(List UInt8)->Option R)(o0:(Nat)->(Nat)->(Int)->(Int)->(List UInt8)->Option R):Option R:=
 (cond (decide (8<=x6)) (cond (inb (ya .u32 ((ya .u32 ((yi (yi (ya .u32 (yi x5 100000000)) 10000) 100)*2))+1)) 200) (cond (inb (ya .u32 ((yi (yi (ya .u32 (yi x5 100000000)) 10000) 100)*2)) 200) (cond (inb (ya .i64 (x6-1)) x4) (cond (inb (ya .i64 (x6-2)) x4) (cond (inb (ya .u32 ((ya .u32 ((ya .u32 (yp (yi (ya .u32 (yi x5 100000000)) 10000) 100))*2))+1)) 200) (cond (inb (ya .u32 ((ya .u32 (yp (yi (ya .u32 (yi x5 100000000)) 10000) 100))*2)) 200) (cond (inb (ya .i64 (x6-3)) x4) (cond (inb (ya .i64 (x6-4)) x4) (cond (inb (ya .u32 ((ya .u32 ((yi (ya .u32 (yp (ya .u32 (yi x5 100000000)) 10000)) 100)*2))+1)) 200) (cond (inb (ya .u32 ((yi (ya .u32 (yp (ya .u32 (yi x5 100000000)) 10000)) 100)*2)) 200) (cond (inb (ya .i64 (x6-5)) x4) (cond (inb (ya .i64 (x6-6)) x4) (cond (inb (ya .u32 ((ya .u32 ((ya .u32 (yp (ya .u32 (yp (ya .u32 (yi x5 100000000)) 10000)) 100))*2))+1)) 200) (cond (inb (ya .u32 ((ya .u32 (yp (ya .u32 (yp (ya .u32 (yi x5 100000000)) 10000)) 100))*2)) 200) (cond (inb (ya .i64 (x6-7)) x4) (cond (inb (ya .i64 (x6-8)) x4) (rec_ x3 x4 (ya .u64 (yp x5 100000000)) (ya .i64 (x6-8)) (yr (yr (yr (yr (yr (yr (yr (yr x7 (x3+(yc (ya .i64 (x6-1)))) (nth .u8 zcL (yc (ya .u32 ((ya .u32 ((yi (yi (ya .u32 (yi x5 100000000)) 10000) 100)*2))+1))))) (x3+(yc (ya .i64 (x6-2)))) (nth .u8 zcL (yc (ya .u32 ((yi (yi (ya .u32 (yi x5 100000000)) 10000) 100)*2))))) (x3+(yc (ya .i64 (x6-3)))) (nth .u8 zcL (yc (ya .u32 ((ya .u32 ((ya .u32 (yp (yi (ya .u32 (yi x5 100000000)) 10000) 100))*2))+1))))) (x3+(yc (ya .i64 (x6-4)))) (nth .u8 zcL (yc (ya .u32 ((ya .u32 (yp (yi (ya .u32 (yi x5 100000000)) 10000) 100))*2))))) (x3+(yc (ya .i64 (x6-5)))) (nth .u8 zcL (yc (ya .u32 ((ya .u32 ((yi (ya .u32 (yp (ya .u32 (yi x5 100000000)) 10000)) 100)*2))+1))))) (x3+(yc (ya .i64 (x6-6)))) (nth .u8 zcL (yc (ya .u32 ((yi (ya .u32 (yp (ya .u32 (yi x5 100000000)) 10000)) 100)*2))))) (x3+(yc (ya .i64 (x6-7)))) (nth .u8 zcL (yc (ya .u32 ((ya .u32 ((ya .u32 (yp (ya .u32 (yp (ya .u32 (yi x5 100000000)) 10000)) 100))*2))+1))))) (x3+(yc (ya .i64 (x6-8)))) (nth .u8 zcL (yc (ya .u32 ((ya .u32 (yp (ya .u32 (yp (ya .u32 (yi x5 100000000)) 10000)) 100))*2)))))) none) none) none) none) none) none) none) none) none) none) none) none) none) none) none) none) (o0 x3 x4 x5 x6 x7))
def zd(N:Nat):Nat->(Nat)->(Nat)->(Int)->(Int)->(List UInt8)->Option ((Nat)×(Nat)×(Int)×(Int)×(List UInt8))
 |0,_,_,_,_,_=>none
 |m+1,x3,x4,x5,x6,x7=>zw N x3 x4 x5 x6 x7 (zd N m) (fun v0 v1 v2 v3 v4=>some (v0,v1,v2,v3,v4))
def zq(N:Nat)(p0:Int):Option ((List UInt8)×Unit):=
 (cond (decide ((ya .u64 p0)<100)) (yd (kA N (ya .i64 (ya .u64 p0))) fun y1=>(some (y1.1,()))) (yd (zv N (ya .u64 p0)) fun y2=>(cond (qZ 0 y2.1 24) (yd (zd N N 0 ((yc y2.1)-0) (ya .u64 p0) ((((yc y2.1)-0):Nat):Int) [0,0,0,0,0,0,0,0,0,0,0,0,0,0,0,0,0,0,0,0,0,0,0,0]) fun o9=>(cond (decide (4<=o9.2.2.2.1)) (cond (inb (ya .u32 ((ya .u32 ((yi (yi (ya .u32 o9.2.2.1) 10000) 100)*2))+1)) 200) (cond (inb (ya .u32 ((yi (yi (ya .u32 o9.2.2.1) 10000) 100)*2)) 200) (cond (inb (ya .i64 (o9.2.2.2.1-1)) o9.2.1) (cond (inb (ya .i64 (o9.2.2.2.1-2)) o9.2.1) (cond (inb (ya .u32 ((ya .u32 ((ya .u32 (yp (yi (ya .u32 o9.2.2.1) 10000) 100))*2))+1)) 200) (cond (inb (ya .u32 ((ya .u32 (yp (yi (ya .u32 o9.2.2.1) 10000) 100))*2)) 200) (cond (inb (ya .i64 (o9.2.2.2.1-3)) o9.2.1) (cond (inb (ya .i64 (o9.2.2.2.1-4)) o9.2.1) (cond (decide (2<=(ya .i64 (o9.2.2.2.1-4)))) (cond (inb (ya .u32 ((ya .u32 ((yi (ya .u32 (yp (ya .u32 o9.2.2.1) 10000)) 100)*2))+1)) 200) (cond (inb (ya .u32 ((yi (ya .u32 (yp (ya .u32 o9.2.2.1) 10000)) 100)*2)) 200) (cond (inb (ya .i64 ((ya .i64 (o9.2.2.2.1-4))-1)) o9.2.1) (cond (inb (ya .i64 ((ya .i64 (o9.2.2.2.1-4))-2)) o9.2.1) (cond (decide (0<(ya .i64 ((ya .i64 (o9.2.2.2.1-4))-2)))) (cond (inb 0 o9.2.1) (cond (qZ 0 y2.1 24) (some ((slice (yr (yr (yr (yr (yr (yr (yr o9.2.2.2.2 (o9.1+(yc (ya .i64 (o9.2.2.2.1-1)))) (nth .u8 zcL (yc (ya .u32 ((ya .u32 ((yi (yi (ya .u32 o9.2.2.1) 10000) 100)*2))+1))))) (o9.1+(yc (ya .i64 (o9.2.2.2.1-2)))) (nth .u8 zcL (yc (ya .u32 ((yi (yi (ya .u32 o9.2.2.1) 10000) 100)*2))))) (o9.1+(yc (ya .i64 (o9.2.2.2.1-3)))) (nth .u8 zcL (yc (ya .u32 ((ya .u32 ((ya .u32 (yp (yi (ya .u32 o9.2.2.1) 10000) 100))*2))+1))))) (o9.1+(yc (ya .i64 (o9.2.2.2.1-4)))) (nth .u8 zcL (yc (ya .u32 ((ya .u32 (yp (yi (ya .u32 o9.2.2.1) 10000) 100))*2))))) (o9.1+(yc (ya .i64 ((ya .i64 (o9.2.2.2.1-4))-1)))) (nth .u8 zcL (yc (ya .u32 ((ya .u32 ((yi (ya .u32 (yp (ya .u32 o9.2.2.1) 10000)) 100)*2))+1))))) (o9.1+(yc (ya .i64 ((ya .i64 (o9.2.2.2.1-4))-2)))) (nth .u8 zcL (yc (ya .u32 ((yi (ya .u32 (yp (ya .u32 o9.2.2.1) 10000)) 100)*2))))) (o9.1+0) (zbv (ya .u32 (48+(ya .u32 (yp (ya .u32 (yp (ya .u32 o9.2.2.1) 10000)) 100)))))) 0 (0+((yc y2.1)-0))),())) none) none) (cond (qZ 0 y2.1 24) (some ((slice (yr (yr (yr (yr (yr (yr o9.2.2.2.2 (o9.1+(yc (ya .i64 (o9.2.2.2.1-1)))) (nth .u8 zcL (yc (ya .u32 ((ya .u32 ((yi (yi (ya .u32 o9.2.2.1) 10000) 100)*2))+1))))) (o9.1+(yc (ya .i64 (o9.2.2.2.1-2)))) (nth .u8 zcL (yc (ya .u32 ((yi (yi (ya .u32 o9.2.2.1) 10000) 100)*2))))) (o9.1+(yc (ya .i64 (o9.2.2.2.1-3)))) (nth .u8 zcL (yc (ya .u32 ((ya .u32 ((ya .u32 (yp (yi (ya .u32 o9.2.2.1) 10000) 100))*2))+1))))) (o9.1+(yc (ya .i64 (o9.2.2.2.1-4)))) (nth .u8 zcL (yc (ya .u32 ((ya .u32 (yp (yi (ya .u32 o9.2.2.1) 10000) 100))*2))))) (o9.1+(yc (ya .i64 ((ya .i64 (o9.2.2.2.1-4))-1)))) (nth .u8 zcL (yc (ya .u32 ((ya .u32 ((yi (ya .u32 (yp (ya .u32 o9.2.2.1) 10000)) 100)*2))+1))))) (o9.1+(yc (ya .i64 ((ya .i64 (o9.2.2.2.1-4))-2)))) (nth .u8 zcL (yc (ya .u32 ((yi (ya .u32 (yp (ya .u32 o9.2.2.1) 10000)) 100)*2))))) 0 (0+((yc y2.1)-0))),())) none)) none) none) none) none) (cond (decide (0<(ya .i64 (o9.2.2.2.1-4)))) (cond (inb 0 o9.2.1) (cond (qZ 0 y2.1 24) (some ((slice (yr (yr (yr (yr (yr o9.2.2.2.2 (o9.1+(yc (ya .i64 (o9.2.2.2.1-1)))) (nth .u8 zcL (yc (ya .u32 ((ya .u32 ((yi (yi (ya .u32 o9.2.2.1) 10000) 100)*2))+1))))) (o9.1+(yc (ya .i64 (o9.2.2.2.1-2)))) (nth .u8 zcL (yc (ya .u32 ((yi (yi (ya .u32 o9.2.2.1) 10000) 100)*2))))) (o9.1+(yc (ya .i64 (o9.2.2.2.1-3)))) (nth .u8 zcL (yc (ya .u32 ((ya .u32 ((ya .u32 (yp (yi (ya .u32 o9.2.2.1) 10000) 100))*2))+1))))) (o9.1+(yc (ya .i64 (o9.2.2.2.1-4)))) (nth .u8 zcL (yc (ya .u32 ((ya .u32 (yp (yi (ya .u32 o9.2.2.1) 10000) 100))*2))))) (o9.1+0) (zbv (ya .u32 (48+(ya .u32 (yp (ya .u32 o9.2.2.1) 10000)))))) 0 (0+((yc y2.1)-0))),())) none) none) (cond (qZ 0 y2.1 24) (some ((slice (yr (yr (yr (yr o9.2.2.2.2 (o9.1+(yc (ya .i64 (o9.2.2.2.1-1)))) (nth .u8 zcL (yc (ya .u32 ((ya .u32 ((yi (yi (ya .u32 o9.2.2.1) 10000) 100)*2))+1))))) (o9.1+(yc (ya .i64 (o9.2.2.2.1-2)))) (nth .u8 zcL (yc (ya .u32 ((yi (yi (ya .u32 o9.2.2.1) 10000) 100)*2))))) (o9.1+(yc (ya .i64 (o9.2.2.2.1-3)))) (nth .u8 zcL (yc (ya .u32 ((ya .u32 ((ya .u32 (yp (yi (ya .u32 o9.2.2.1) 10000) 100))*2))+1))))) (o9.1+(yc (ya .i64 (o9.2.2.2.1-4)))) (nth .u8 zcL (yc (ya .u32 ((ya .u32 (yp (yi (ya .u32 o9.2.2.1) 10000) 100))*2))))) 0 (0+((yc y2.1)-0))),())) none))) none) none) none) none) none) none) none) none) (cond (decide (2<=o9.2.2.2.1)) (cond (inb (ya .u32 ((ya .u32 ((yi (ya .u32 o9.2.2.1) 100)*2))+1)) 200) (cond (inb (ya .u32 ((yi (ya .u32 o9.2.2.1) 100)*2)) 200) (cond (inb (ya .i64 (o9.2.2.2.1-1)) o9.2.1) (cond (inb (ya .i64 (o9.2.2.2.1-2)) o9.2.1) (cond (decide (0<(ya .i64 (o9.2.2.2.1-2)))) (cond (inb 0 o9.2.1) (cond (qZ 0 y2.1 24) (some ((slice (yr (yr (yr o9.2.2.2.2 (o9.1+(yc (ya .i64 (o9.2.2.2.1-1)))) (nth .u8 zcL (yc (ya .u32 ((ya .u32 ((yi (ya .u32 o9.2.2.1) 100)*2))+1))))) (o9.1+(yc (ya .i64 (o9.2.2.2.1-2)))) (nth .u8 zcL (yc (ya .u32 ((yi (ya .u32 o9.2.2.1) 100)*2))))) (o9.1+0) (zbv (ya .u32 (48+(ya .u32 (yp (ya .u32 o9.2.2.1) 100)))))) 0 (0+((yc y2.1)-0))),())) none) none) (cond (qZ 0 y2.1 24) (some ((slice (yr (yr o9.2.2.2.2 (o9.1+(yc (ya .i64 (o9.2.2.2.1-1)))) (nth .u8 zcL (yc (ya .u32 ((ya .u32 ((yi (ya .u32 o9.2.2.1) 100)*2))+1))))) (o9.1+(yc (ya .i64 (o9.2.2.2.1-2)))) (nth .u8 zcL (yc (ya .u32 ((yi (ya .u32 o9.2.2.1) 100)*2))))) 0 (0+((yc y2.1)-0))),())) none)) none) none) none) none) (cond (decide (0<o9.2.2.2.1)) (cond (inb 0 o9.2.1) (cond (qZ 0 y2.1 24) (some ((slice (yr o9.2.2.2.2 (o9.1+0) (zbv (ya .u32 (48+(ya .u32 o9.2.2.1))))) 0 (0+((yc y2.1)-0))),())) none) none) (cond (qZ 0 y2.1 24) (some ((slice o9.2.2.2.2 0 (0+((yc y2.1)-0))),())) none))))) none)))
def wi(N:Nat)(p0:(List UInt8)):Option (Int×Bool×Unit):=
 (cond (yS (yb p0) znE) (zpM (Go.Lib.parseUintB 32 p0) (fun u1=>(yd (zq N (ya .u32 u1)) fun y2=>(cond (y2.1 != p0) (some (0,false,())) (some ((ya .u32 u1),true,()))))) (some (0,false,())) (some (0,false,()))) none)
def zO(N:Nat)(p0:(List UInt8)):Option ((List UInt8)×Unit):=
 (cond (yq (0+(yb p0)) qc) (some (([]++p0),())) none)
def qM(N:Nat)(p0:(List UInt8))(p1:Int):Option ((List UInt8)×Int×Bool×Unit):=
 (cond (decide (p1<0)) (some ([],0,false,())) (cond (decide ((((yb p0):Nat):Int)<=p1)) (some ([],0,false,())) (cond (inb (ya .i64 ((ya .i64 (p1+1))-1)) (yb p0)) (cond (!((nth .u8 p0 (yc (ya .i64 ((ya .i64 (p1+1))-1))))==123)) (some ([],0,false,())) (cond (z8 (ya .i64 (p1+1)) p0&&true) (yd (js N (ze p0 (yc (ya .i64 (p1+1)))) 125) fun y1=>(cond (decide (y1.1<0)) (some ([],0,false,())) (cond ((qZ (ya .i64 (p1+1)) (ya .i64 ((ya .i64 (p1+1))+y1.1)) (yb p0))&&true) (yd (wi N (slice p0 (yc (ya .i64 (p1+1))) (yc (ya .i64 ((ya .i64 (p1+1))+y1.1))))) fun y2=>(cond (!y2.2.1) (some ([],0,false,())) (cond (decide (65536<y2.1)) (some ([],0,false,())) (cond (decide ((ya .i64 ((ya .i64 (p1+1))+(ya .i64 (y1.1+1))))<0)) (some ([],0,false,())) (cond (decide ((((yb p0):Nat):Int)<=(ya .i64 ((ya .i64 (p1+1))+(ya .i64 (y1.1+1)))))) (some ([],0,false,())) (cond (inb (ya .i64 ((ya .i64 ((ya .i64 ((ya .i64 (p1+1))+(ya .i64 (y1.1+1))))+1))-1)) (yb p0)) (cond (!((nth .u8 p0 (yc (ya .i64 ((ya .i64 ((ya .i64 ((ya .i64 (p1+1))+(ya .i64 (y1.1+1))))+1))-1))))==13)) (some ([],0,false,())) (cond (decide ((ya .i64 ((ya .i64 ((ya .i64 (p1+1))+(ya .i64 (y1.1+1))))+1))<0)) (some ([],0,false,())) (cond (decide ((((yb p0):Nat):Int)<=(ya .i64 ((ya .i64 ((ya .i64 (p1+1))+(ya .i64 (y1.1+1))))+1)))) (some ([],0,false,())) (cond (inb (ya .i64 ((ya .i64 ((ya .i64 ((ya .i64 ((ya .i64 (p1+1))+(ya .i64 (y1.1+1))))+1))+1))-1)) (yb p0)) (cond (!((nth .u8 p0 (yc (ya .i64 ((ya .i64 ((ya .i64 ((ya .i64 ((ya .i64 (p1+1))+(ya .i64 (y1.1+1))))+1))+1))-1))))==10)) (some ([],0,false,())) (cond (decide ((ya .i64 ((((yb p0):Nat):Int)-(ya .i64 ((ya .i64 ((ya .i64 ((ya .i64 (p1+1))+(ya .i64 (y1.1+1))))+1))+1))))<(ya .i64 y2.1))) (some ([],0,false,())) (cond ((qZ (ya .i64 ((ya .i64 ((ya .i64 ((ya .i64 (p1+1))+(ya .i64 (y1.1+1))))+1))+1)) (ya .i64 ((ya .i64 ((ya .i64 ((ya .i64 ((ya .i64 (p1+1))+(ya .i64 (y1.1+1))))+1))+1))+(ya .i64 y2.1))) (yb p0))&&true) (yd (zO N (slice p0 (yc (ya .i64 ((ya .i64 ((ya .i64 ((ya .i64 (p1+1))+(ya .i64 (y1.1+1))))+1))+1))) (yc (ya .i64 ((ya .i64 ((ya .i64 ((ya .i64 ((ya .i64 (p1+1))+(ya .i64 (y1.1+1))))+1))+1))+(ya .i64 y2.1)))))) fun y3=>(some (y3.1,(ya .i64 ((ya .i64 ((ya .i64 ((ya .i64 ((ya .i64 (p1+1))+(ya .i64 (y1.1+1))))+1))+1))+(ya .i64 y2.1))),true,()))) none))) none)))) none)))))) none))) none)) none)))
def qx(N:Nat)(p0:(List UInt8))(p1:UInt8):Option (Int×Unit):=
 (some ((jI p1 p0 0),()))
def zaG(N:Nat)(p0:(List UInt8))(p1:UInt8):Option (Int×Unit):=
 (yd (qx N p0 p1) fun y1=>(some (y1.1,())))
def k9(N:Nat)(p0:UInt8):Option (Bool×Unit):=
 (cond (decide (32<p0)) (cond (decide (p0<=126)) (yd (zaG N [40,41,34,123] p0) fun y1=>(some ((decide (y1.1<0)),()))) (some (false,()))) (some (false,())))
def xU(N:Nat){R:Type}(x81:Int)(x82:List UInt8)(x83:Int)(rec_:(Int)->(List UInt8)->(Int)->Option R)(o0:(Int)->(List UInt8)->(Int)->Option R):Option R:=
 (cond (decide (x83<(((yb x82):Nat):Int))) (cond (inb x83 (yb x82)) (yd (k9 N (nth .u8 x82 (yc x83))) fun y86=>(cond y86.1 (rec_ x81 x82 (ya .i64 (x83+1))) (o0 x81 x82 x83))) none) (o0 x81 x82 x83))
def qq(N:Nat):Nat->(Int)->(List UInt8)->(Int)->Option ((Int)×(List UInt8)×(Int))
 |0,_,_,_=>none
 |m+1,x81,x82,x83=>xU N x81 x82 x83 (qq N m) (fun v0 v1 v2=>some (v0,v1,v2))
def xS(N:Nat){R:Type}(x62:List UInt8)(x63:Int)(x64:List (El uS1))(rec_:(List UInt8)->(Int)->(List (El uS1))->Option R)(o0:(List UInt8)->(Int)->(List (El uS1))->Option R)(o1:(Int)->(List UInt8)->(Int)->(List (El uS1))->Option R):Option R:=
 (cond (x63==(((yb x62):Nat):Int)) (cond (yq ((yb x64)+1) qc) (o0 x62 x63 (x64++([(0,([],x63))]:List (El uS1)))) none) (cond (inb x63 (yb x62)) (cond ((nth .u8 x62 (yc x63))==32) (cond (yq ((yb x64)+1) qc) (rec_ x62 (ya .i64 (x63+1)) (x64++([(1,([],x63))]:List (El uS1)))) none) (cond ((nth .u8 x62 (yc x63))==40) (cond (yq ((yb x64)+1) qc) (rec_ x62 (ya .i64 (x63+1)) (x64++([(2,([],x63))]:List (El uS1)))) none) (cond ((nth .u8 x62 (yc x63))==41) (cond (yq ((yb x64)+1) qc) (rec_ x62 (ya .i64 (x63+1)) (x64++([(3,([],x63))]:List (El uS1)))) none) (cond ((nth .u8 x62 (yc x63))==34) (yd (jY N x62 x63) fun y77=>(cond y77.2.2.1 (cond (!y77.2.2.1) (o1 x63 x62 y77.2.1 x64) (cond (yq ((yb x64)+1) qc) (rec_ x62 y77.2.1 (x64++([(5,(y77.1,x63))]:List (El uS1)))) none)) (cond (!y77.2.2.1) (o1 x63 x62 x63 x64) (cond (yq ((yb x64)+1) qc) (rec_ x62 x63 (x64++([(5,(y77.1,x63))]:List (El uS1)))) none)))) (cond ((nth .u8 x62 (yc x63))==123) (yd (qM N x62 x63) fun y78=>(cond y78.2.2.1 (cond (!y78.2.2.1) (o1 x63 x62 y78.2.1 x64) (cond (yq ((yb x64)+1) qc) (rec_ x62 y78.2.1 (x64++([(6,(y78.1,x63))]:List (El uS1)))) none)) (cond (!y78.2.2.1) (o1 x63 x62 x63 x64) (cond (yq ((yb x64)+1) qc) (rec_ x62 x63 (x64++([(6,(y78.1,x63))]:List (El uS1)))) none)))) (yd (qq N N x63 x62 x63) fun o87=>(cond ((qZ o87.1 o87.2.2 (yb o87.2.1))&&true) (cond (!(decide (o87.1<o87.2.2))) (o1 x63 o87.2.1 o87.2.2 x64) (cond (yq ((yb x64)+1) qc) (rec_ o87.2.1 o87.2.2 (x64++([(4,((slice o87.2.1 (yc o87.1) (yc o87.2.2)),x63))]:List (El uS1)))) none)) none))))))) none))
def zL(N:Nat):Nat->(List UInt8)->(Int)->(List (El uS1))->Option (((List UInt8)×(Int)×(List (El uS1))) ⊕ ((Int)×(List UInt8)×(Int)×(List (El uS1))))
 |0,_,_,_=>none
 |m+1,x62,x63,x64=>xS N x62 x63 x64 (zL N m) (fun v0 v1 v2=>some (Sum.inl (v0,v1,v2))) (fun v0 v1 v2 v3=>some (Sum.inr (v0,v1,v2,v3)))
def k8(N:Nat)(p0:(List UInt8)):Option ((List (El uS1))×Int×Unit):=
 (yd (zL N N p0 0 []) fun o92=>(zi o92 (fun a93=>(some (a93.2.2,(-1),()))) (fun b94=>(some ([],b94.1,())))))
def zaF(N:Nat){R:Type}(x4:List Int)(x5:Int)(x6:Int)(x7:Int)(rec_:(List Int)->(Int)->(Int)->(Int)->Option R)(o0:(Int)->Option R)(o1:Unit->Option R):Option R:=
 (cond (decide (x7<x6)) (cond (inb x7 (yb x4)) (cond (x5==(nth (.int .i64) x4 (yc x7))) (o0 x7) (rec_ x4 x5 x6 (ya .i64 (x7+1)))) none) (o1 ()))
def zI(N:Nat):Nat->(List Int)->(Int)->(Int)->(Int)->Option (((Int)) ⊕ (Unit))
 |0,_,_,_,_=>none
 |m+1,x4,x5,x6,x7=>zaF N x4 x5 x6 x7 (zI N m) (fun v0=>some (Sum.inl v0)) (fun _=>some (Sum.inr ()))
def qU(N:Nat)(p0:(List Int))(p1:Int):Option (Int×Unit):=
 (yd (zI N N p0 p1 (((yb p0):Nat):Int) 0) fun o13=>(zi o13 (fun a14=>(some (a14,()))) (fun b15=>(some ((-1),())))))
def za(N:Nat)(p0:(List Int))(p1:Int):Option (Bool×Unit):=
 (yd (qU N p0 p1) fun y1=>(some ((decide (0<=y1.1)),())))
def zbx(N:Nat){R:Type}(x5:Int)(x6:Int)(x7:List UInt8)(rec_:(Int)->(Int)->(List UInt8)->Option R)(o0:(List UInt8)->Option R):Option R:=
 (cond (decide (x6<x5)) (cond (inb x6 (yb x7)) (cond (decide (97<=(nth .u8 x7 (yc x6)))) (cond (decide ((nth .u8 x7 (yc x6))<=122)) (cond (inb x6 (yb x7)) (rec_ x5 (ya .i64 (x6+1)) (yr x7 (yc x6) ((nth .u8 x7 (yc x6)) &&& ~~~32))) none) (cond (inb x6 (yb x7)) (rec_ x5 (ya .i64 (x6+1)) (yr x7 (yc x6) (nth .u8 x7 (yc x6)))) none)) (cond (inb x6 (yb x7)) (rec_ x5 (ya .i64 (x6+1)) (yr x7 (yc x6) (nth .u8 x7 (yc x6)))) none)) none) (o0 x7))
def jt(N:Nat):Nat->(Int)->(Int)->(List UInt8)->Option ((List UInt8))
 |0,_,_,_=>none
 |m+1,x5,x6,x7=>zbx N x5 x6 x7 (jt N m) (fun v0=>some v0)
def jB(N:Nat)(p0:(List UInt8)):Option ((List UInt8)×Unit):=
 (cond (yq (yb p0) qc) (yd (jt N N (((yb p0):Nat):Int) 0 p0) fun o9=>(some (o9,()))) none)
def kz(N:Nat){R:Type}(x4:List (List UInt8))(x5:List UInt8)(x6:Int)(x7:Int)(rec_:(List (List UInt8))->(List UInt8)->(Int)->(Int)->Option R)(o0:(Int)->Option R)(o1:Unit->Option R):Option R:=
 (cond (decide (x7<x6)) (cond (inb x7 (yb x4)) (cond (x5==(nth .str x4 (yc x7))) (o0 x7) (rec_ x4 x5 x6 (ya .i64 (x7+1)))) none) (o1 ()))
def zl(N:Nat):Nat->(List (List UInt8))->(List UInt8)->(Int)->(Int)->Option (((Int)) ⊕ (Unit))
 |0,_,_,_,_=>none
 |m+1,x4,x5,x6,x7=>kz N x4 x5 x6 x7 (zl N m) (fun v0=>some (Sum.inl v0)) (fun _=>some (Sum.inr ()))
def zp(N:Nat)(p0:(List (List UInt8)))(p1:(List UInt8)):Option (Int×Unit):=
 (yd (zl N N p0 p1 (((yb p0):Nat):Int) 0) fun o13=>(zi o13 (fun a14=>(some (a14,()))) (fun b15=>(some ((-1),())))))
def wC(N:Nat)(p0:(List UInt8)):Option (Int×Bool×Unit):=
 (yd (jB N p0) fun y1=>(yd (zp N ([[78,79,79,80],[76,79,71,79,85,84],[67,76,79,83,69],[69,88,80,85,78,71,69],[83,69,76,69,67,84],[65,80,80,69,78,68],[70,69,84,67,72],[83,84,79,82,69]]:List (List UInt8)) y1.1) fun y2=>(some ((ya .i64 (y2.1+1)),(decide (0<=y2.1)),()))))
def zb4(N:Nat)(p0:UInt8):Option (Bool×Unit):=
 (yd (zb5 N p0) fun y1=>(some (y1.1,())))
def zS(N:Nat)(p0:UInt8):Option (Bool×Unit):=
 (yd (zb4 N p0) fun y1=>(cond y1.1 (some (true,())) (some ((p0==93),()))))
def jH(N:Nat)(p0:(List UInt8))(p1:(List UInt8)):Option (Bool×Unit):=
 (cond (decide ((((yb p1):Nat):Int)<=(((yb p0):Nat):Int))) (cond (qZ 0 (((yb p1):Nat):Int) (yb p0)) (some (((slice p0 0 (yc (((yb p1):Nat):Int)))==p1),())) none) (some (false,())))
def jG(N:Nat)(p0:(List UInt8))(p1:(List UInt8)):Option ((List UInt8)×Bool×Unit):=
 (yd (jH N p0 p1) fun y1=>(cond (!y1.1) (some (p0,false,())) (cond (qZ (((yb p1):Nat):Int) (((yb p0):Nat):Int) (yb p0)) (some ((slice p0 (yc (((yb p1):Nat):Int)) (yc (((yb p0):Nat):Int))),true,())) none)))
def jF(N:Nat)(p0:(List UInt8))(p1:(List UInt8)):Option ((List UInt8)×Bool×Unit):=
 (yd (jG N p0 p1) fun y1=>(some (y1.1,y1.2.1,())))
def qw(N:Nat)(p0:(List UInt8))(p1:(List UInt8)):Option (Bool×Unit):=
 (cond (decide ((((yb p1):Nat):Int)<=(((yb p0):Nat):Int))) (cond (qZ (ya .i64 ((((yb p0):Nat):Int)-(((yb p1):Nat):Int))) (((yb p0):Nat):Int) (yb p0)) (some (((slice p0 (yc (ya .i64 ((((yb p0):Nat):Int)-(((yb p1):Nat):Int)))) (yc (((yb p0):Nat):Int)))==p1),())) none) (some (false,())))
def qv(N:Nat)(p0:(List UInt8))(p1:(List UInt8)):Option ((List UInt8)×Bool×Unit):=
 (yd (qw N p0 p1) fun y1=>(cond (!y1.1) (some (p0,false,())) (cond (qZ 0 (ya .i64 ((((yb p0):Nat):Int)-(((yb p1):Nat):Int))) (yb p0)) (some ((slice p0 0 (yc (ya .i64 ((((yb p0):Nat):Int)-(((yb p1):Nat):Int))))),true,())) none)))
def z7(N:Nat)(p0:(List UInt8))(p1:(List UInt8)):Option ((List UInt8)×Bool×Unit):=
 (yd (qv N p0 p1) fun y1=>(some (y1.1,y1.2.1,())))
def zf7(N:Nat){R:Type}(x6:UInt8)(x7:Int)(x8:List UInt8)(rec_:(UInt8)->(Int)->(List UInt8)->Option R)(o0:(List UInt8)->Option R):Option R:=
 (cond (decide (x7<5)) (cond (decide (0<=x7)) (cond ((x6 &&& (zu1 1 x7)) != 0) (cond (yq ((yb x8)+1) qc) (rec_ x6 (ya .i64 (x7+1)) (x8++([(x6 &&& (zu1 1 x7))]:List UInt8))) none) (rec_ x6 (ya .i64 (x7+1)) x8)) none) (o0 x8))
def kW(N:Nat):Nat->(UInt8)->(Int)->(List UInt8)->Option ((List UInt8))
 |0,_,_,_=>none
 |m+1,x6,x7,x8=>zf7 N x6 x7 x8 (kW N m) (fun v0=>some v0)
def zdG(N:Nat)(p0:UInt8):Option ((List UInt8)×Unit):=
 (yd (kW N N p0 0 []) fun o10=>(some (o10,())))
def zf9(N:Nat){R:Type}(x3:UInt8)(x4:Int)(x5:List (List UInt8))(rec_:(UInt8)->(Int)->(List (List UInt8))->Option R)(o0:(List UInt8)->(List (List UInt8))->Option R)(o1:(List (List UInt8))->Option R):Option R:=
 (cond (decide (x4<5)) (cond (inb x4 (yb x5)) (cond (decide (0<=x4)) (cond (x3==(zu1 1 x4)) (o0 (nth .str x5 (yc x4)) x5) (rec_ x3 (ya .i64 (x4+1)) x5)) none) none) (o1 x5))
def kX(N:Nat):Nat->(UInt8)->(Int)->(List (List UInt8))->Option (((List UInt8)×(List (List UInt8))) ⊕ ((List (List UInt8))))
 |0,_,_,_=>none
 |m+1,x3,x4,x5=>zf9 N x3 x4 x5 (kX N m) (fun v0 v1=>some (Sum.inl (v0,v1))) (fun v0=>some (Sum.inr v0))
def zgD(N:Nat)(p0:UInt8):Option ((List UInt8)×Unit):=
 (yd (kX N N p0 0 ([[92,65,110,115,119,101,114,101,100],[92,70,108,97,103,103,101,100],[92,68,101,108,101,116,101,100],[92,83,101,101,110],[92,68,114,97,102,116]]:List (List UInt8))) fun o11=>(zi o11 (fun a12=>(some (a12.1,()))) (fun b13=>(some ([],())))))
def zeb(N:Nat){R:Type}(x21:List UInt8)(x22:Int)(x23:Int)(x24:List ((List UInt8)×UInt8))(rec_:(List UInt8)->(Int)->(Int)->(List ((List UInt8)×UInt8))->Option R)(o0:(List ((List UInt8)×UInt8))->Option R):Option R:=
 (cond (decide (x23<x22)) (cond (inb x23 (yb x21)) (yd (zgD N (nth .u8 x21 (yc x23))) fun y28=>(yd (jB N y28.1) fun y29=>(rec_ x21 x22 (ya .i64 (x23+1)) (zkl .str .u8 x24 y29.1 (nth .u8 x21 (yc x23)))))) none) (o0 x24))
def jK(N:Nat):Nat->(List UInt8)->(Int)->(Int)->(List ((List UInt8)×UInt8))->Option ((List ((List UInt8)×UInt8)))
 |0,_,_,_,_=>none
 |m+1,x21,x22,x23,x24=>zeb N x21 x22 x23 x24 (jK N m) (fun v0=>some v0)
def kl(N:Nat){R:Type}(x40:UInt8)(x41:Int)(x42:Int)(x43:List ((List UInt8)×UInt8))(x44:List (List UInt8))(rec_:(UInt8)->(Int)->(Int)->(List ((List UInt8)×UInt8))->(List (List UInt8))->Option R)(o0:(UInt8)->(List ((List UInt8)×UInt8))->(List (List UInt8))->Option R)(o1:(UInt8)->(List ((List UInt8)×UInt8))->(List (List UInt8))->Option R):Option R:=
 (cond (decide (x42<x41)) (cond (inb x42 (yb x44)) (yd (jB N (nth .str x44 (yc x42))) fun y47=>(cond (!(Option.isSome (zbR .str .u8 x43 y47.1))) (o0 0 x43 x44) (rec_ (x40 ||| (Option.getD (zbR .str .u8 x43 y47.1) 0)) x41 (ya .i64 (x42+1)) x43 x44))) none) (o1 x40 x43 x44))
def jc(N:Nat):Nat->(UInt8)->(Int)->(Int)->(List ((List UInt8)×UInt8))->(List (List UInt8))->Option (((UInt8)×(List ((List UInt8)×UInt8))×(List (List UInt8))) ⊕ ((UInt8)×(List ((List UInt8)×UInt8))×(List (List UInt8))))
 |0,_,_,_,_,_=>none
 |m+1,x40,x41,x42,x43,x44=>kl N x40 x41 x42 x43 x44 (jc N m) (fun v0 v1 v2=>some (Sum.inl (v0,v1,v2))) (fun v0 v1 v2=>some (Sum.inr (v0,v1,v2)))
def j4(N:Nat)(p0:(List UInt8)):Option (UInt8×Bool×Unit):=
 (yd (jF N p0 [40]) fun y1=>(yd (z7 N y1.1 [41]) fun y2=>(cond (!y1.2.1) (some (0,false,())) (cond (!y2.2.1) (some (0,false,())) (cond (y2.1==[]) (some (0,true,())) (yd (zdG N 31) fun y3=>(yd (jK N N y3.1 (((yb y3.1):Nat):Int) 0 []) fun o30=>(cond (yS (yb y2.1) zcZ) (yd (jc N N 0 (((yb (jz y2.1 [32])):Nat):Int) 0 o30 (jz y2.1 [32])) fun o52=>(zi o52 (fun a53=>(some (a53.1,false,()))) (fun b54=>(some (b54.1,true,()))))) none))))))))
def qe(N:Nat)(p0:(List UInt8)):Option (Int×Bool×Unit):=
 (cond (p0==[42]) (some (0,true,())) (yd (wi N p0) fun y1=>(cond y1.2.1 (some (y1.1,(y1.1 != 0),())) (some (y1.1,false,())))))
def xQ(N:Nat){R:Type}(x30:Int)(x31:Int)(x32:List (List UInt8))(x33:List (Int×Int))(rec_:(Int)->(Int)->(List (List UInt8))->(List (Int×Int))->Option R)(o0:(List (List UInt8))->(List (Int×Int))->Option R)(o1:(List (List UInt8))->(List (Int×Int))->Option R):Option R:=
 (cond (decide (x31<x30)) (cond (inb x31 (yb x32)) (cond ([58]==(nth .str x32 (yc x31))) (cond (qZ 0 0 (yb (nth .str x32 (yc x31)))) (cond (qZ 1 (((yb (nth .str x32 (yc x31))):Nat):Int) (yb (nth .str x32 (yc x31)))) (yd (qe N (slice (nth .str x32 (yc x31)) 0 0)) fun y42=>(yd (qe N (slice (nth .str x32 (yc x31)) 1 (yc (((yb (nth .str x32 (yc x31))):Nat):Int)))) fun y43=>(cond (!y42.2.1) (o0 x32 x33) (cond (!y43.2.1) (o0 x32 x33) (cond (yq ((yb x33)+1) qc) (rec_ x30 (ya .i64 (x31+1)) x32 (x33++([(y42.1,y43.1)]:List (Int×Int)))) none))))) none) none) (yd (qx N (nth .str x32 (yc x31)) 58) fun y44=>(cond (decide (0<=y44.1)) (cond (qZ 0 y44.1 (yb (nth .str x32 (yc x31)))) (cond (qZ (ya .i64 (y44.1+1)) (((yb (nth .str x32 (yc x31))):Nat):Int) (yb (nth .str x32 (yc x31)))) (yd (qe N (slice (nth .str x32 (yc x31)) 0 (yc y44.1))) fun y45=>(yd (qe N (slice (nth .str x32 (yc x31)) (yc (ya .i64 (y44.1+1))) (yc (((yb (nth .str x32 (yc x31))):Nat):Int)))) fun y46=>(cond (!y45.2.1) (o0 x32 x33) (cond (!y46.2.1) (o0 x32 x33) (cond (yq ((yb x33)+1) qc) (rec_ x30 (ya .i64 (x31+1)) x32 (x33++([(y45.1,y46.1)]:List (Int×Int)))) none))))) none) none) (yd (qe N (nth .str x32 (yc x31))) fun y47=>(yd (qe N (nth .str x32 (yc x31))) fun y48=>(cond (!y47.2.1) (o0 x32 x33) (cond (!y48.2.1) (o0 x32 x33) (cond (yq ((yb x33)+1) qc) (rec_ x30 (ya .i64 (x31+1)) x32 (x33++([(y47.1,y48.1)]:List (Int×Int)))) none)))))))) none) (o1 x32 x33))
def zD(N:Nat):Nat->(Int)->(Int)->(List (List UInt8))->(List (Int×Int))->Option (((List (List UInt8))×(List (Int×Int))) ⊕ ((List (List UInt8))×(List (Int×Int))))
 |0,_,_,_,_=>none
 |m+1,x30,x31,x32,x33=>xQ N x30 x31 x32 x33 (zD N m) (fun v0 v1=>some (Sum.inl (v0,v1))) (fun v0 v1=>some (Sum.inr (v0,v1)))
def jT(N:Nat)(p0:(List UInt8)):Option ((List (Int×Int))×Bool×Unit):=
 (cond (yS (yb p0) zcZ) (yd (zD N N (((yb (jz p0 [44])):Nat):Int) 0 (jz p0 [44]) []) fun o53=>(zi o53 (fun a54=>(some ([],false,()))) (fun b55=>(some (b55.2,true,()))))) none)
def jP(N:Nat)(p0:(List UInt8)):Option (Int×Bool×Unit):=
 (yd (jB N p0) fun y1=>(yd (zp N ([[70,76,65,71,83],[85,73,68],[82,70,67,56,50,50,46,83,73,90,69],[66,79,68,89,46,80,69,69,75,91,93],[66,79,68,89,91,93]]:List (List UInt8)) y1.1) fun y2=>(cond (decide (y2.1<0)) (some (0,false,())) (cond (decide (0<=y2.1)) (some ((ya .i64 (1*(2 ^ (min (yc y2.1) (yj .i64))))),true,())) none))))
def xn(N:Nat){R:Type}(x18:List UInt8)(x19:Int)(x20:Int)(rec_:(List UInt8)->(Int)->(Int)->Option R)(o0:Unit->Option R)(o1:Unit->Option R):Option R:=
 (cond (decide (x20<x19)) (cond (inb x20 (yb x18)) (yd (zS N (nth .u8 x18 (yc x20))) fun y23=>(cond (!y23.1) (o0 ()) (rec_ x18 x19 (ya .i64 (x20+1))))) none) (o1 ()))
def qh(N:Nat):Nat->(List UInt8)->(Int)->(Int)->Option ((Unit) ⊕ (Unit))
 |0,_,_,_=>none
 |m+1,x18,x19,x20=>xn N x18 x19 x20 (qh N m) (fun _=>some (Sum.inl ())) (fun _=>some (Sum.inr ()))
def jj(N:Nat){R:Type}(x40:List (El uS1))(x41:List UInt8)(x42:Int)(x43:List UInt8)(x44:UInt8)(rec_:(List (El uS1))->(List UInt8)->(Int)->(List UInt8)->(UInt8)->Option R)(o0:(List (El uS1))->(List UInt8)->(Int)->(List UInt8)->(UInt8)->Option R)(o1:(List (El uS1))->(List UInt8)->(Int)->(List UInt8)->(UInt8)->Option R):Option R:=
 (cond (inb 0 (yb x40)) (yd (za N ([4]:List Int) (nth uS1 x40 0).1) fun y49=>(cond (!y49.1) (o0 x40 x41 x42 x43 x44) (cond (z8 1 x40&&true) (cond (decide (yb ([40]:List UInt8)+yb (nth uS1 x40 0).2.1<4611686018427387904)) (cond (decide (yb (([40]:List UInt8)++(nth uS1 x40 0).2.1)+yb ([41]:List UInt8)<4611686018427387904)) (yd (j4 N ((([40]:List UInt8)++(nth uS1 x40 0).2.1)++([41]:List UInt8))) fun y50=>(cond y50.2.1 (cond (!((nth uS1 x40 0).2.1 != ([]:List UInt8))) (o0 (ze x40 1) x41 x42 x43 x44) (cond (inb 0 (yb (ze x40 1))) (cond ((nth uS1 (ze x40 1) 0).1==(3:Int)) (o1 (ze x40 1) x41 x42 x43 (x44 ||| y50.1)) (cond (inb 0 (yb (ze x40 1))) (yd (za N ([1]:List Int) (nth uS1 (ze x40 1) 0).1) fun y51=>(cond (!y51.1) (o0 (ze x40 1) x41 x42 x43 (x44 ||| y50.1)) (cond (z8 1 (ze x40 1)&&true) (rec_ (ze (ze x40 1) 1) x41 x42 x43 (x44 ||| y50.1)) none))) none)) none)) (o0 (ze x40 1) x41 x42 x43 x44))) none) none) none))) none)
def zA(N:Nat):Nat->(List (El uS1))->(List UInt8)->(Int)->(List UInt8)->(UInt8)->Option (((List (El uS1))×(List UInt8)×(Int)×(List UInt8)×(UInt8)) ⊕ ((List (El uS1))×(List UInt8)×(Int)×(List UInt8)×(UInt8)))
 |0,_,_,_,_,_=>none
 |m+1,x40,x41,x42,x43,x44=>jj N x40 x41 x42 x43 x44 (zA N m) (fun v0 v1 v2 v3 v4=>some (Sum.inl (v0,v1,v2,v3,v4))) (fun v0 v1 v2 v3 v4=>some (Sum.inr (v0,v1,v2,v3,v4)))
def xr(N:Nat){R:Type}(x75:List UInt8)(x76:Int)(x77:Int)(rec_:(List UInt8)->(Int)->(Int)->Option R)(o0:Unit->Option R)(o1:Unit->Option R):Option R:=
 (cond (decide (x77<x76)) (cond (inb x77 (yb x75)) (yd (zS N (nth .u8 x75 (yc x77))) fun y80=>(cond (!y80.1) (o0 ()) (rec_ x75 x76 (ya .i64 (x77+1))))) none) (o1 ()))
def qi(N:Nat):Nat->(List UInt8)->(Int)->(Int)->Option ((Unit) ⊕ (Unit))
 |0,_,_,_=>none
 |m+1,x75,x76,x77=>xr N x75 x76 x77 (qi N m) (fun _=>some (Sum.inl ())) (fun _=>some (Sum.inr ()))
def zcC(N:Nat){R:Type}(x94:List (El uS1))(x95:List UInt8)(x96:Int)(x97:List UInt8)(x98:UInt8)(rec_:(List (El uS1))->(List UInt8)->(Int)->(List UInt8)->(UInt8)->Option R)(o0:(List (El uS1))->(List UInt8)->(Int)->(List UInt8)->(UInt8)->Option R)(o1:(List (El uS1))->(List UInt8)->(Int)->(List UInt8)->(UInt8)->Option R):Option R:=
 (cond (inb 0 (yb x94)) (yd (za N ([4]:List Int) (nth uS1 x94 0).1) fun y103=>(cond (!y103.1) (o0 x94 x95 x96 x97 x98) (cond (z8 1 x94&&true) (cond (decide (yb ([40]:List UInt8)+yb (nth uS1 x94 0).2.1<4611686018427387904)) (cond (decide (yb (([40]:List UInt8)++(nth uS1 x94 0).2.1)+yb ([41]:List UInt8)<4611686018427387904)) (yd (j4 N ((([40]:List UInt8)++(nth uS1 x94 0).2.1)++([41]:List UInt8))) fun y104=>(cond y104.2.1 (cond (!((nth uS1 x94 0).2.1 != ([]:List UInt8))) (o0 (ze x94 1) x95 x96 x97 x98) (cond (inb 0 (yb (ze x94 1))) (cond ((nth uS1 (ze x94 1) 0).1==(3:Int)) (o1 (ze x94 1) x95 x96 x97 (x98 ||| y104.1)) (cond (inb 0 (yb (ze x94 1))) (yd (za N ([1]:List Int) (nth uS1 (ze x94 1) 0).1) fun y105=>(cond (!y105.1) (o0 (ze x94 1) x95 x96 x97 (x98 ||| y104.1)) (cond (z8 1 (ze x94 1)&&true) (rec_ (ze (ze x94 1) 1) x95 x96 x97 (x98 ||| y104.1)) none))) none)) none)) (o0 (ze x94 1) x95 x96 x97 x98))) none) none) none))) none)
def wx(N:Nat):Nat->(List (El uS1))->(List UInt8)->(Int)->(List UInt8)->(UInt8)->Option (((List (El uS1))×(List UInt8)×(Int)×(List UInt8)×(UInt8)) ⊕ ((List (El uS1))×(List UInt8)×(Int)×(List UInt8)×(UInt8)))
 |0,_,_,_,_,_=>none
 |m+1,x94,x95,x96,x97,x98=>zcC N x94 x95 x96 x97 x98 (wx N m) (fun v0 v1 v2 v3 v4=>some (Sum.inl (v0,v1,v2,v3,v4))) (fun v0 v1 v2 v3 v4=>some (Sum.inr (v0,v1,v2,v3,v4)))
def qR(N:Nat){R:Type}(x143:List (El uS1))(x144:List UInt8)(x145:Int)(x146:List (Int×Int))(x147:Int)(x148:UInt8)(rec_:(List (El uS1))->(List UInt8)->(Int)->(List (Int×Int))->(Int)->(UInt8)->Option R)(o0:(List (El uS1))->(List UInt8)->(Int)->(List (Int×Int))->(Int)->(UInt8)->Option R)(o1:(List (El uS1))->(List UInt8)->(Int)->(List (Int×Int))->(Int)->(UInt8)->Option R):Option R:=
 (cond (inb 0 (yb x143)) (yd (za N ([4]:List Int) (nth uS1 x143 0).1) fun y153=>(cond (!y153.1) (o0 x143 x144 x145 x146 x147 x148) (cond (z8 1 x143&&true) (yd (jP N (nth uS1 x143 0).2.1) fun y154=>(cond (!y154.2.1) (o0 (ze x143 1) x144 x145 x146 x147 x148) (cond (inb 0 (yb (ze x143 1))) (cond ((nth uS1 (ze x143 1) 0).1==(3:Int)) (o1 (ze x143 1) x144 x145 x146 (zaf .or .i64 x147 y154.1) x148) (cond (inb 0 (yb (ze x143 1))) (yd (za N ([1]:List Int) (nth uS1 (ze x143 1) 0).1) fun y155=>(cond (!y155.1) (o0 (ze x143 1) x144 x145 x146 (zaf .or .i64 x147 y154.1) x148) (cond (z8 1 (ze x143 1)&&true) (rec_ (ze (ze x143 1) 1) x144 x145 x146 (zaf .or .i64 x147 y154.1) x148) none))) none)) none))) none))) none)
def zy(N:Nat):Nat->(List (El uS1))->(List UInt8)->(Int)->(List (Int×Int))->(Int)->(UInt8)->Option (((List (El uS1))×(List UInt8)×(Int)×(List (Int×Int))×(Int)×(UInt8)) ⊕ ((List (El uS1))×(List UInt8)×(Int)×(List (Int×Int))×(Int)×(UInt8)))
 |0,_,_,_,_,_,_=>none
 |m+1,x143,x144,x145,x146,x147,x148=>qR N x143 x144 x145 x146 x147 x148 (zy N m) (fun v0 v1 v2 v3 v4 v5=>some (Sum.inl (v0,v1,v2,v3,v4,v5))) (fun v0 v1 v2 v3 v4 v5=>some (Sum.inr (v0,v1,v2,v3,v4,v5)))
def qS(N:Nat){R:Type}(x179:List (El uS1))(x180:List UInt8)(x181:Int)(x182:List (Int×Int))(x183:Int)(x184:Bool)(x185:UInt8)(rec_:(List (El uS1))->(List UInt8)->(Int)->(List (Int×Int))->(Int)->(Bool)->(UInt8)->Option R)(o0:(List (El uS1))->(List UInt8)->(Int)->(List (Int×Int))->(Int)->(Bool)->(UInt8)->Option R)(o1:(List (El uS1))->(List UInt8)->(Int)->(List (Int×Int))->(Int)->(Bool)->(UInt8)->Option R):Option R:=
 (cond (inb 0 (yb x179)) (yd (za N ([4]:List Int) (nth uS1 x179 0).1) fun y190=>(cond (!y190.1) (o0 x179 x180 x181 x182 x183 x184 x185) (cond (z8 1 x179&&true) (cond (decide (yb ([40]:List UInt8)+yb (nth uS1 x179 0).2.1<4611686018427387904)) (cond (decide (yb (([40]:List UInt8)++(nth uS1 x179 0).2.1)+yb ([41]:List UInt8)<4611686018427387904)) (yd (j4 N ((([40]:List UInt8)++(nth uS1 x179 0).2.1)++([41]:List UInt8))) fun y191=>(cond y191.2.1 (cond (!((nth uS1 x179 0).2.1 != ([]:List UInt8))) (o0 (ze x179 1) x180 x181 x182 x183 x184 x185) (cond (inb 0 (yb (ze x179 1))) (cond ((nth uS1 (ze x179 1) 0).1==(3:Int)) (o1 (ze x179 1) x180 x181 x182 x183 x184 (x185 ||| y191.1)) (cond (inb 0 (yb (ze x179 1))) (yd (za N ([1]:List Int) (nth uS1 (ze x179 1) 0).1) fun y192=>(cond (!y192.1) (o0 (ze x179 1) x180 x181 x182 x183 x184 (x185 ||| y191.1)) (cond (z8 1 (ze x179 1)&&true) (rec_ (ze (ze x179 1) 1) x180 x181 x182 x183 x184 (x185 ||| y191.1)) none))) none)) none)) (o0 (ze x179 1) x180 x181 x182 x183 x184 x185))) none) none) none))) none)
def zz(N:Nat):Nat->(List (El uS1))->(List UInt8)->(Int)->(List (Int×Int))->(Int)->(Bool)->(UInt8)->Option (((List (El uS1))×(List UInt8)×(Int)×(List (Int×Int))×(Int)×(Bool)×(UInt8)) ⊕ ((List (El uS1))×(List UInt8)×(Int)×(List (Int×Int))×(Int)×(Bool)×(UInt8)))
 |0,_,_,_,_,_,_,_=>none
 |m+1,x179,x180,x181,x182,x183,x184,x185=>qS N x179 x180 x181 x182 x183 x184 x185 (zz N m) (fun v0 v1 v2 v3 v4 v5 v6=>some (Sum.inl (v0,v1,v2,v3,v4,v5,v6))) (fun v0 v1 v2 v3 v4 v5 v6=>some (Sum.inr (v0,v1,v2,v3,v4,v5,v6)))
def qT(N:Nat){R:Type}(x208:List (El uS1))(x209:List UInt8)(x210:Int)(x211:List (Int×Int))(x212:Int)(x213:Bool)(x214:UInt8)(rec_:(List (El uS1))->(List UInt8)->(Int)->(List (Int×Int))->(Int)->(Bool)->(UInt8)->Option R)(o0:(List (El uS1))->(List UInt8)->(Int)->(List (Int×Int))->(Int)->(Bool)->(UInt8)->Option R)(o1:(List (El uS1))->(List UInt8)->(Int)->(List (Int×Int))->(Int)->(Bool)->(UInt8)->Option R):Option R:=
 (cond (inb 0 (yb x208)) (yd (za N ([4]:List Int) (nth uS1 x208 0).1) fun y219=>(cond (!y219.1) (o0 x208 x209 x210 x211 x212 x213 x214) (cond (z8 1 x208&&true) (cond (decide (yb ([40]:List UInt8)+yb (nth uS1 x208 0).2.1<4611686018427387904)) (cond (decide (yb (([40]:List UInt8)++(nth uS1 x208 0).2.1)+yb ([41]:List UInt8)<4611686018427387904)) (yd (j4 N ((([40]:List UInt8)++(nth uS1 x208 0).2.1)++([41]:List UInt8))) fun y220=>(cond y220.2.1 (cond (!((nth uS1 x208 0).2.1 != ([]:List UInt8))) (o0 (ze x208 1) x209 x210 x211 x212 x213 x214) (cond (inb 0 (yb (ze x208 1))) (cond ((nth uS1 (ze x208 1) 0).1==(0:Int)) (o1 (ze x208 1) x209 x210 x211 x212 x213 (x214 ||| y220.1)) (cond (inb 0 (yb (ze x208 1))) (yd (za N ([1]:List Int) (nth uS1 (ze x208 1) 0).1) fun y221=>(cond (!y221.1) (o0 (ze x208 1) x209 x210 x211 x212 x213 (x214 ||| y220.1)) (cond (z8 1 (ze x208 1)&&true) (rec_ (ze (ze x208 1) 1) x209 x210 x211 x212 x213 (x214 ||| y220.1)) none))) none)) none)) (o0 (ze x208 1) x209 x210 x211 x212 x213 x214))) none) none) none))) none)
def zB(N:Nat):Nat->(List (El uS1))->(List UInt8)->(Int)->(List (Int×Int))->(Int)->(Bool)->(UInt8)->Option (((List (El uS1))×(List UInt8)×(Int)×(List (Int×Int))×(Int)×(Bool)×(UInt8)) ⊕ ((List (El uS1))×(List UInt8)×(Int)×(List (Int×Int))×(Int)×(Bool)×(UInt8)))
 |0,_,_,_,_,_,_,_=>none
 |m+1,x208,x209,x210,x211,x212,x213,x214=>qT N x208 x209 x210 x211 x212 x213 x214 (zB N m) (fun v0 v1 v2 v3 v4 v5 v6=>some (Sum.inl (v0,v1,v2,v3,v4,v5,v6))) (fun v0 v1 v2 v3 v4 v5 v6=>some (Sum.inr (v0,v1,v2,v3,v4,v5,v6)))
def B1(N:Nat)(tag:List UInt8)(kd:Int)(l:List (El uS1)):Option ((El uS2)×Bool×Unit):=
 (cond (inb (0:Int) (yb l)) (yd (za N ([(0:Int)]:List Int) (nth uS1 l 0).1) fun y5=>(cond (!y5.1) (some ((tag,((0:Int),(([]:List UInt8),(([]:List (Int×Int)),((0:Int),((0:Int),(false,((0:UInt8),([]:List UInt8))))))))),false,())) (cond (z8 (1:Int) l&&true) (some ((tag,(kd,(([]:List UInt8),(([]:List (Int×Int)),((0:Int),((0:Int),(false,((0:UInt8),([]:List UInt8))))))))),true,())) none))) none)
def E5(N:Nat)(tag:List UInt8)(kd:Int)(mb:List UInt8)(q:List (El uS1)):Option ((El uS2)×Bool×Unit):=
 (cond (inb (0:Int) (yb q)) (yd (za N ([(0:Int)]:List Int) (nth uS1 q 0).1) fun y11=>(cond (!y11.1) (some ((tag,((0:Int),(([]:List UInt8),(([]:List (Int×Int)),((0:Int),((0:Int),(false,((0:UInt8),([]:List UInt8))))))))),false,())) (cond (z8 (1:Int) q&&true) (some ((tag,(kd,(mb,(([]:List (Int×Int)),((0:Int),((0:Int),(false,((0:UInt8),([]:List UInt8))))))))),true,())) none))) none)
def B5(N:Nat)(tag:List UInt8)(kd:Int)(l:List (El uS1)):Option ((El uS2)×Bool×Unit):=
 (cond (inb (0:Int) (yb l)) (yd (za N ([(1:Int)]:List Int) (nth uS1 l 0).1) fun y9=>(cond (!y9.1) (some ((tag,((0:Int),(([]:List UInt8),(([]:List (Int×Int)),((0:Int),((0:Int),(false,((0:UInt8),([]:List UInt8))))))))),false,())) (cond (z8 (1:Int) l&&true) (cond (inb (0:Int) (yb (ze l 1))) (cond (inb (0:Int) (yb (ze l 1))) (yd (za N ([(4:Int),(5:Int),(6:Int)]:List Int) (nth uS1 (ze l 1) 0).1) fun y10=>(cond (!y10.1) (some ((tag,((0:Int),(([]:List UInt8),(([]:List (Int×Int)),((0:Int),((0:Int),(false,((0:UInt8),([]:List UInt8))))))))),false,())) (cond (z8 (1:Int) (ze l 1)&&true) (cond ((nth uS1 (ze l 1) 0).1 != (4:Int)) (E5 N tag kd (nth uS1 (ze l 1) 0).2.1 (ze (ze l 1) 1)) (cond ((nth uS1 (ze l 1) 0).2.1 != ([]:List UInt8)) (yd (qh N N (nth uS1 (ze l 1) 0).2.1 (((yb (nth uS1 (ze l 1) 0).2.1):Nat):Int) (0:Int)) fun o26=>(zi o26 (fun a27=>(some ((tag,((0:Int),(([]:List UInt8),(([]:List (Int×Int)),((0:Int),((0:Int),(false,((0:UInt8),([]:List UInt8))))))))),false,()))) (fun b28=>(E5 N tag kd (nth uS1 (ze l 1) 0).2.1 (ze (ze l 1) 1))))) (some ((tag,((0:Int),(([]:List UInt8),(([]:List (Int×Int)),((0:Int),((0:Int),(false,((0:UInt8),([]:List UInt8))))))))),false,())))) none))) none) none) none))) none)
def G6(N:Nat)(tag:List UInt8)(tag1:List UInt8)(kd1:Int)(mb1:List UInt8)(f:UInt8)(l:List (El uS1)):Option ((El uS2)×Bool×Unit):=
 (cond (inb (0:Int) (yb l)) (yd (za N ([(3:Int)]:List Int) (nth uS1 l 0).1) fun y55=>(cond (!y55.1) (some ((tag,((0:Int),(([]:List UInt8),(([]:List (Int×Int)),((0:Int),((0:Int),(false,((0:UInt8),([]:List UInt8))))))))),false,())) (cond (z8 (1:Int) l&&true) (cond (inb (0:Int) (yb (ze l 1))) (yd (za N ([(1:Int)]:List Int) (nth uS1 (ze l 1) 0).1) fun y56=>(cond (!y56.1) (some ((tag,((0:Int),(([]:List UInt8),(([]:List (Int×Int)),((0:Int),((0:Int),(false,((0:UInt8),([]:List UInt8))))))))),false,())) (cond (z8 (1:Int) (ze l 1)&&true) (cond (inb (0:Int) (yb (ze (ze l 1) 1))) (yd (za N ([(6:Int)]:List Int) (nth uS1 (ze (ze l 1) 1) 0).1) fun y57=>(cond (!y57.1) (some ((tag,((0:Int),(([]:List UInt8),(([]:List (Int×Int)),((0:Int),((0:Int),(false,((0:UInt8),([]:List UInt8))))))))),false,())) (cond (z8 (1:Int) (ze (ze l 1) 1)&&true) (cond (yq (yb (nth uS1 (ze (ze l 1) 1) 0).2.1) qc) (cond (inb (0:Int) (yb (ze (ze (ze l 1) 1) 1))) (yd (za N ([(0:Int)]:List Int) (nth uS1 (ze (ze (ze l 1) 1) 1) 0).1) fun y58=>(cond (!y58.1) (some ((tag,((0:Int),(([]:List UInt8),(([]:List (Int×Int)),((0:Int),((0:Int),(false,((0:UInt8),([]:List UInt8))))))))),false,())) (cond (z8 (1:Int) (ze (ze (ze l 1) 1) 1)&&true) (some ((tag1,(kd1,(mb1,(([]:List (Int×Int)),((0:Int),((0:Int),(false,(f,(nth uS1 (ze (ze l 1) 1) 0).2.1)))))))),true,())) none))) none) none) none))) none) none))) none) none))) none)
def D6(N:Nat)(tag:List UInt8)(kd:Int)(mb:List UInt8)(r:List (El uS1)):Option ((El uS2)×Bool×Unit):=
 (cond (inb (0:Int) (yb r)) (cond ((nth uS1 r 0).1==(2:Int)) (cond (inb (0:Int) (yb r)) (yd (za N ([(2:Int)]:List Int) (nth uS1 r 0).1) fun y33=>(cond (!y33.1) (some ((tag,((0:Int),(([]:List UInt8),(([]:List (Int×Int)),((0:Int),((0:Int),(false,((0:UInt8),([]:List UInt8))))))))),false,())) (cond (z8 (1:Int) r&&true) (cond (inb (0:Int) (yb (ze r 1))) (cond ((nth uS1 (ze r 1) 0).1 != (3:Int)) (yd (zA N N (ze r 1) tag kd mb (0:UInt8)) fun o52=>(zi o52 (fun a53=>(some ((tag,((0:Int),(([]:List UInt8),(([]:List (Int×Int)),((0:Int),((0:Int),(false,((0:UInt8),([]:List UInt8))))))))),false,()))) (fun b54=>(G6 N tag b54.2.1 b54.2.2.1 b54.2.2.2.1 b54.2.2.2.2 b54.1)))) (G6 N tag tag kd mb (0:UInt8) (ze r 1))) none) none))) none) (cond (inb (0:Int) (yb r)) (yd (za N ([(6:Int)]:List Int) (nth uS1 r 0).1) fun y63=>(cond (!y63.1) (some ((tag,((0:Int),(([]:List UInt8),(([]:List (Int×Int)),((0:Int),((0:Int),(false,((0:UInt8),([]:List UInt8))))))))),false,())) (cond (z8 (1:Int) r&&true) (cond (yq (yb (nth uS1 r 0).2.1) qc) (cond (inb (0:Int) (yb (ze r 1))) (yd (za N ([(0:Int)]:List Int) (nth uS1 (ze r 1) 0).1) fun y64=>(cond (!y64.1) (some ((tag,((0:Int),(([]:List UInt8),(([]:List (Int×Int)),((0:Int),((0:Int),(false,((0:UInt8),([]:List UInt8))))))))),false,())) (cond (z8 (1:Int) (ze r 1)&&true) (some ((tag,(kd,(mb,(([]:List (Int×Int)),((0:Int),((0:Int),(false,((0:UInt8),(nth uS1 r 0).2.1)))))))),true,())) none))) none) none) none))) none)) none)
def C6(N:Nat)(tag:List UInt8)(kd:Int)(mb:List UInt8)(q:List (El uS1)):Option ((El uS2)×Bool×Unit):=
 (cond (inb (0:Int) (yb q)) (yd (za N ([(1:Int)]:List Int) (nth uS1 q 0).1) fun y32=>(cond (!y32.1) (some ((tag,((0:Int),(([]:List UInt8),(([]:List (Int×Int)),((0:Int),((0:Int),(false,((0:UInt8),([]:List UInt8))))))))),false,())) (cond (z8 (1:Int) q&&true) (D6 N tag kd mb (ze q 1)) none))) none)
def B6(N:Nat)(tag:List UInt8)(kd:Int)(l:List (El uS1)):Option ((El uS2)×Bool×Unit):=
 (cond (inb (0:Int) (yb l)) (yd (za N ([(1:Int)]:List Int) (nth uS1 l 0).1) fun y30=>(cond (!y30.1) (some ((tag,((0:Int),(([]:List UInt8),(([]:List (Int×Int)),((0:Int),((0:Int),(false,((0:UInt8),([]:List UInt8))))))))),false,())) (cond (z8 (1:Int) l&&true) (cond (inb (0:Int) (yb (ze l 1))) (cond (inb (0:Int) (yb (ze l 1))) (yd (za N ([(4:Int),(5:Int),(6:Int)]:List Int) (nth uS1 (ze l 1) 0).1) fun y31=>(cond (!y31.1) (some ((tag,((0:Int),(([]:List UInt8),(([]:List (Int×Int)),((0:Int),((0:Int),(false,((0:UInt8),([]:List UInt8))))))))),false,())) (cond (z8 (1:Int) (ze l 1)&&true) (cond ((nth uS1 (ze l 1) 0).1 != (4:Int)) (C6 N tag kd (nth uS1 (ze l 1) 0).2.1 (ze (ze l 1) 1)) (cond ((nth uS1 (ze l 1) 0).2.1 != ([]:List UInt8)) (yd (qi N N (nth uS1 (ze l 1) 0).2.1 (((yb (nth uS1 (ze l 1) 0).2.1):Nat):Int) (0:Int)) fun o79=>(zi o79 (fun a80=>(some ((tag,((0:Int),(([]:List UInt8),(([]:List (Int×Int)),((0:Int),((0:Int),(false,((0:UInt8),([]:List UInt8))))))))),false,()))) (fun b81=>(C6 N tag kd (nth uS1 (ze l 1) 0).2.1 (ze (ze l 1) 1))))) (some ((tag,((0:Int),(([]:List UInt8),(([]:List (Int×Int)),((0:Int),((0:Int),(false,((0:UInt8),([]:List UInt8))))))))),false,())))) none))) none) none) none))) none)
def D7(N:Nat)(tag:List UInt8)(kd:Int)(st:List (Int×Int))(r:List (El uS1)):Option ((El uS2)×Bool×Unit):=
 (cond (inb (0:Int) (yb r)) (cond ((nth uS1 r 0).1 != (2:Int)) (cond (inb (0:Int) (yb r)) (yd (za N ([(4:Int)]:List Int) (nth uS1 r 0).1) fun y119=>(cond (!y119.1) (some ((tag,((0:Int),(([]:List UInt8),(([]:List (Int×Int)),((0:Int),((0:Int),(false,((0:UInt8),([]:List UInt8))))))))),false,())) (cond (z8 (1:Int) r&&true) (yd (jP N (nth uS1 r 0).2.1) fun y120=>(cond (!y120.2.1) (some ((tag,((0:Int),(([]:List UInt8),(([]:List (Int×Int)),((0:Int),((0:Int),(false,((0:UInt8),([]:List UInt8))))))))),false,())) (cond (inb (0:Int) (yb (ze r 1))) (yd (za N ([(0:Int)]:List Int) (nth uS1 (ze r 1) 0).1) fun y121=>(cond (!y121.1) (some ((tag,((0:Int),(([]:List UInt8),(([]:List (Int×Int)),((0:Int),((0:Int),(false,((0:UInt8),([]:List UInt8))))))))),false,())) (cond (z8 (1:Int) (ze r 1)&&true) (some ((tag,(kd,(([]:List UInt8),(st,((zaf .or .i64 (0:Int) y120.1),((0:Int),(false,((0:UInt8),([]:List UInt8))))))))),true,())) none))) none))) none))) none) (cond (inb (0:Int) (yb r)) (yd (za N ([(2:Int)]:List Int) (nth uS1 r 0).1) fun y122=>(cond (!y122.1) (some ((tag,((0:Int),(([]:List UInt8),(([]:List (Int×Int)),((0:Int),((0:Int),(false,((0:UInt8),([]:List UInt8))))))))),false,())) (cond (z8 (1:Int) r&&true) (yd (zy N N (ze r 1) tag kd st (0:Int) (0:UInt8)) fun o150=>(zi o150 (fun a151=>(some ((tag,((0:Int),(([]:List UInt8),(([]:List (Int×Int)),((0:Int),((0:Int),(false,((0:UInt8),([]:List UInt8))))))))),false,()))) (fun b152=>(cond (inb (0:Int) (yb b152.1)) (yd (za N ([(3:Int)]:List Int) (nth uS1 b152.1 0).1) fun y153=>(cond (!y153.1) (some ((tag,((0:Int),(([]:List UInt8),(([]:List (Int×Int)),((0:Int),((0:Int),(false,((0:UInt8),([]:List UInt8))))))))),false,())) (cond (z8 (1:Int) b152.1&&true) (cond (inb (0:Int) (yb (ze b152.1 1))) (yd (za N ([(0:Int)]:List Int) (nth uS1 (ze b152.1 1) 0).1) fun y154=>(cond (!y154.1) (some ((tag,((0:Int),(([]:List UInt8),(([]:List (Int×Int)),((0:Int),((0:Int),(false,((0:UInt8),([]:List UInt8))))))))),false,())) (cond (z8 (1:Int) (ze b152.1 1)&&true) (some ((b152.2.1,(b152.2.2.1,(([]:List UInt8),(b152.2.2.2.1,(b152.2.2.2.2.1,((0:Int),(false,(b152.2.2.2.2.2,([]:List UInt8))))))))),true,())) none))) none) none))) none)))) none))) none)) none)
def B7(N:Nat)(tag:List UInt8)(kd:Int)(l:List (El uS1)):Option ((El uS2)×Bool×Unit):=
 (cond (inb (0:Int) (yb l)) (yd (za N ([(1:Int)]:List Int) (nth uS1 l 0).1) fun y115=>(cond (!y115.1) (some ((tag,((0:Int),(([]:List UInt8),(([]:List (Int×Int)),((0:Int),((0:Int),(false,((0:UInt8),([]:List UInt8))))))))),false,())) (cond (z8 (1:Int) l&&true) (cond (inb (0:Int) (yb (ze l 1))) (yd (za N ([(4:Int)]:List Int) (nth uS1 (ze l 1) 0).1) fun y116=>(cond (!y116.1) (some ((tag,((0:Int),(([]:List UInt8),(([]:List (Int×Int)),((0:Int),((0:Int),(false,((0:UInt8),([]:List UInt8))))))))),false,())) (cond (z8 (1:Int) (ze l 1)&&true) (yd (jT N (nth uS1 (ze l 1) 0).2.1) fun y117=>(cond (!y117.2.1) (some ((tag,((0:Int),(([]:List UInt8),(([]:List (Int×Int)),((0:Int),((0:Int),(false,((0:UInt8),([]:List UInt8))))))))),false,())) (cond (inb (0:Int) (yb (ze (ze l 1) 1))) (yd (za N ([(1:Int)]:List Int) (nth uS1 (ze (ze l 1) 1) 0).1) fun y118=>(cond (!y118.1) (some ((tag,((0:Int),(([]:List UInt8),(([]:List (Int×Int)),((0:Int),((0:Int),(false,((0:UInt8),([]:List UInt8))))))))),false,())) (cond (z8 (1:Int) (ze (ze l 1) 1)&&true) (D7 N tag kd y117.1 (ze (ze (ze l 1) 1) 1)) none))) none))) none))) none) none))) none)
def G8(N:Nat)(tag:List UInt8)(tag1:List UInt8)(kd1:Int)(st1:List (Int×Int))(md1:Int)(sl1:Bool)(f:UInt8)(l:List (El uS1)):Option ((El uS2)×Bool×Unit):=
 (cond (inb (0:Int) (yb l)) (yd (za N ([(3:Int)]:List Int) (nth uS1 l 0).1) fun y188=>(cond (!y188.1) (some ((tag,((0:Int),(([]:List UInt8),(([]:List (Int×Int)),((0:Int),((0:Int),(false,((0:UInt8),([]:List UInt8))))))))),false,())) (cond (z8 (1:Int) l&&true) (cond (inb (0:Int) (yb (ze l 1))) (yd (za N ([(0:Int)]:List Int) (nth uS1 (ze l 1) 0).1) fun y189=>(cond (!y189.1) (some ((tag,((0:Int),(([]:List UInt8),(([]:List (Int×Int)),((0:Int),((0:Int),(false,((0:UInt8),([]:List UInt8))))))))),false,())) (cond (z8 (1:Int) (ze l 1)&&true) (some ((tag1,(kd1,(([]:List UInt8),(st1,((0:Int),(md1,(sl1,(f,([]:List UInt8))))))))),true,())) none))) none) none))) none)
def D8(N:Nat)(tag:List UInt8)(kd:Int)(st:List (Int×Int))(md:Int)(sl:Bool)(r:List (El uS1)):Option ((El uS2)×Bool×Unit):=
 (cond (inb (0:Int) (yb r)) (cond ((nth uS1 r 0).1==(2:Int)) (cond (inb (0:Int) (yb r)) (yd (za N ([(2:Int)]:List Int) (nth uS1 r 0).1) fun y164=>(cond (!y164.1) (some ((tag,((0:Int),(([]:List UInt8),(([]:List (Int×Int)),((0:Int),((0:Int),(false,((0:UInt8),([]:List UInt8))))))))),false,())) (cond (z8 (1:Int) r&&true) (cond (inb (0:Int) (yb (ze r 1))) (cond ((nth uS1 (ze r 1) 0).1 != (3:Int)) (yd (zz N N (ze r 1) tag kd st md sl (0:UInt8)) fun o185=>(zi o185 (fun a186=>(some ((tag,((0:Int),(([]:List UInt8),(([]:List (Int×Int)),((0:Int),((0:Int),(false,((0:UInt8),([]:List UInt8))))))))),false,()))) (fun b187=>(G8 N tag b187.2.1 b187.2.2.1 b187.2.2.2.1 b187.2.2.2.2.1 b187.2.2.2.2.2.1 b187.2.2.2.2.2.2 b187.1)))) (G8 N tag tag kd st md sl (0:UInt8) (ze r 1))) none) none))) none) (yd (zB N N r tag kd st md sl (0:UInt8)) fun o212=>(zi o212 (fun a213=>(some ((tag,((0:Int),(([]:List UInt8),(([]:List (Int×Int)),((0:Int),((0:Int),(false,((0:UInt8),([]:List UInt8))))))))),false,()))) (fun b214=>(cond (inb (0:Int) (yb b214.1)) (yd (za N ([(0:Int)]:List Int) (nth uS1 b214.1 0).1) fun y215=>(cond (!y215.1) (some ((tag,((0:Int),(([]:List UInt8),(([]:List (Int×Int)),((0:Int),((0:Int),(false,((0:UInt8),([]:List UInt8))))))))),false,())) (cond (z8 (1:Int) b214.1&&true) (some ((b214.2.1,(b214.2.2.1,(([]:List UInt8),(b214.2.2.2.1,((0:Int),(b214.2.2.2.2.1,(b214.2.2.2.2.2.1,(b214.2.2.2.2.2.2,([]:List UInt8))))))))),true,())) none))) none))))) none)
def B8(N:Nat)(tag:List UInt8)(kd:Int)(l:List (El uS1)):Option ((El uS2)×Bool×Unit):=
 (cond (inb (0:Int) (yb l)) (yd (za N ([(1:Int)]:List Int) (nth uS1 l 0).1) fun y155=>(cond (!y155.1) (some ((tag,((0:Int),(([]:List UInt8),(([]:List (Int×Int)),((0:Int),((0:Int),(false,((0:UInt8),([]:List UInt8))))))))),false,())) (cond (z8 (1:Int) l&&true) (cond (inb (0:Int) (yb (ze l 1))) (yd (za N ([(4:Int)]:List Int) (nth uS1 (ze l 1) 0).1) fun y156=>(cond (!y156.1) (some ((tag,((0:Int),(([]:List UInt8),(([]:List (Int×Int)),((0:Int),((0:Int),(false,((0:UInt8),([]:List UInt8))))))))),false,())) (cond (z8 (1:Int) (ze l 1)&&true) (yd (jT N (nth uS1 (ze l 1) 0).2.1) fun y157=>(cond (!y157.2.1) (some ((tag,((0:Int),(([]:List UInt8),(([]:List (Int×Int)),((0:Int),((0:Int),(false,((0:UInt8),([]:List UInt8))))))))),false,())) (cond (inb (0:Int) (yb (ze (ze l 1) 1))) (yd (za N ([(1:Int)]:List Int) (nth uS1 (ze (ze l 1) 1) 0).1) fun y158=>(cond (!y158.1) (some ((tag,((0:Int),(([]:List UInt8),(([]:List (Int×Int)),((0:Int),((0:Int),(false,((0:UInt8),([]:List UInt8))))))))),false,())) (cond (z8 (1:Int) (ze (ze l 1) 1)&&true) (cond (inb (0:Int) (yb (ze (ze (ze l 1) 1) 1))) (yd (za N ([(4:Int)]:List Int) (nth uS1 (ze (ze (ze l 1) 1) 1) 0).1) fun y159=>(cond (!y159.1) (some ((tag,((0:Int),(([]:List UInt8),(([]:List (Int×Int)),((0:Int),((0:Int),(false,((0:UInt8),([]:List UInt8))))))))),false,())) (cond (z8 (1:Int) (ze (ze (ze l 1) 1) 1)&&true) (yd (jB N (nth uS1 (ze (ze (ze l 1) 1) 1) 0).2.1) fun y160=>(yd (z7 N y160.1 ([46,83,73,76,69,78,84]:List UInt8)) fun y161=>(yd (zp N ([([70,76,65,71,83]:List UInt8),([43,70,76,65,71,83]:List UInt8),([45,70,76,65,71,83]:List UInt8)]:List (List UInt8)) y161.1) fun y162=>(cond (!(decide ((0:Int)<=y162.1))) (some ((tag,((0:Int),(([]:List UInt8),(([]:List (Int×Int)),((0:Int),((0:Int),(false,((0:UInt8),([]:List UInt8))))))))),false,())) (cond (inb (0:Int) (yb (ze (ze (ze (ze l 1) 1) 1) 1))) (yd (za N ([(1:Int)]:List Int) (nth uS1 (ze (ze (ze (ze l 1) 1) 1) 1) 0).1) fun y163=>(cond (!y163.1) (some ((tag,((0:Int),(([]:List UInt8),(([]:List (Int×Int)),((0:Int),((0:Int),(false,((0:UInt8),([]:List UInt8))))))))),false,())) (cond (z8 (1:Int) (ze (ze (ze (ze l 1) 1) 1) 1)&&true) (D8 N tag kd y157.1 y162.1 y161.2.1 (ze (ze (ze (ze (ze l 1) 1) 1) 1) 1)) none))) none))))) none))) none) none))) none))) none))) none) none))) none)
def kk(N:Nat)(p0:(List UInt8)):Option ((El uS2)×Bool×Unit):=
 (yd (zb8 N p0) fun y1=>(cond (!y1.2.2.1) (some ((y1.1,((0:Int),(([]:List UInt8),(([]:List (Int×Int)),((0:Int),((0:Int),(false,((0:UInt8),([]:List UInt8))))))))),false,())) (cond (z8 y1.2.1 p0&&true) (yd (k8 N (ze p0 (yc y1.2.1))) fun y2=>(cond (!(decide (y2.2.1<(0:Int)))) (some ((y1.1,((0:Int),(([]:List UInt8),(([]:List (Int×Int)),((0:Int),((0:Int),(false,((0:UInt8),([]:List UInt8))))))))),false,())) (cond (inb (0:Int) (yb y2.1)) (yd (za N ([(4:Int)]:List Int) (nth uS1 y2.1 0).1) fun y3=>(cond (!y3.1) (some ((y1.1,((0:Int),(([]:List UInt8),(([]:List (Int×Int)),((0:Int),((0:Int),(false,((0:UInt8),([]:List UInt8))))))))),false,())) (cond (z8 (1:Int) y2.1&&true) (yd (wC N (nth uS1 y2.1 0).2.1) fun y4=>(cond (!y4.2.1) (some ((y1.1,((0:Int),(([]:List UInt8),(([]:List (Int×Int)),((0:Int),((0:Int),(false,((0:UInt8),([]:List UInt8))))))))),false,())) (cond (y4.1==(1:Int)) (B1 N y1.1 y4.1 (ze y2.1 1)) (cond (y4.1==(2:Int)) (B1 N y1.1 y4.1 (ze y2.1 1)) (cond (y4.1==(3:Int)) (B1 N y1.1 y4.1 (ze y2.1 1)) (cond (y4.1==(4:Int)) (B1 N y1.1 y4.1 (ze y2.1 1)) (cond (y4.1==(5:Int)) (B5 N y1.1 y4.1 (ze y2.1 1)) (cond (y4.1==(6:Int)) (B6 N y1.1 y4.1 (ze y2.1 1)) (cond (y4.1==(7:Int)) (B7 N y1.1 y4.1 (ze y2.1 1)) (cond (y4.1==(8:Int)) (B8 N y1.1 y4.1 (ze y2.1 1)) none)))))))))) none))) none))) none)))
def wY(N:Nat)(p0:UInt8):Option (Bool×Unit):=
 (cond (p0==40) (cond (p0==40) (some (false,())) (cond (decide (32<p0)) (some ((decide (p0<127)),())) (some (false,())))) (cond (p0==41) (cond (p0==41) (some (false,())) (cond (decide (32<p0)) (some ((decide (p0<127)),())) (some (false,())))) (cond (p0==123) (cond (p0==123) (some (false,())) (cond (decide (32<p0)) (some ((decide (p0<127)),())) (some (false,())))) (cond (p0==37) (cond (p0==37) (some (false,())) (cond (decide (32<p0)) (some ((decide (p0<127)),())) (some (false,())))) (cond (p0==42) (cond (p0==42) (some (false,())) (cond (decide (32<p0)) (some ((decide (p0<127)),())) (some (false,())))) (cond (p0==34) (cond (p0==34) (some (false,())) (cond (decide (32<p0)) (some ((decide (p0<127)),())) (some (false,())))) (cond (p0==92) (cond (p0==92) (some (false,())) (cond (decide (32<p0)) (some ((decide (p0<127)),())) (some (false,())))) (cond (p0==93) (some (false,())) (cond (decide (32<p0)) (some ((decide (p0<127)),())) (some (false,())))))))))))
def zax(N:Nat)(p0:UInt8):Option (Bool×Unit):=
 (yd (wY N p0) fun y1=>(cond y1.1 (cond (p0 != 43) (some (true,())) (some ((p0==93),()))) (some ((p0==93),()))))
def zcw(N:Nat){R:Type}(x3:List UInt8)(x4:Int)(rec_:(List UInt8)->(Int)->Option R)(o0:(List UInt8)->(Int)->Option R):Option R:=
 (cond (decide (x4<(((yb x3):Nat):Int))) (cond (inb x4 (yb x3)) (yd (zax N (nth .u8 x3 (yc x4))) fun y7=>(cond y7.1 (rec_ x3 (ya .i64 (x4+1))) (o0 x3 x4))) none) (o0 x3 x4))
def jS(N:Nat):Nat->(List UInt8)->(Int)->Option ((List UInt8)×(Int))
 |0,_,_=>none
 |m+1,x3,x4=>zcw N x3 x4 (jS N m) (fun v0 v1=>some (v0,v1))
def zb7(N:Nat)(p0:(List UInt8)):Option ((List UInt8)×Int×Bool×Unit):=
 (yd (jS N N p0 0) fun o8=>(cond (o8.2==0) (some ([],0,false,())) (cond (o8.2==(((yb o8.1):Nat):Int)) (some ([],0,false,())) (cond (inb o8.2 (yb o8.1)) (cond ((nth .u8 o8.1 (yc o8.2)) != 32) (some ([],0,false,())) (cond ((qZ 0 o8.2 (yb o8.1))&&true) (some ((slice o8.1 0 (yc o8.2)),(ya .i64 (o8.2+1)),true,())) none)) none))))
def j5(N:Nat)(p0:UInt8):Option (Bool×Unit):=
 (cond (decide (0<p0)) (cond (decide (p0<128)) (cond (p0 != 10) (some ((p0 != 13),())) (some (false,()))) (some (false,()))) (some (false,())))
def ke(N:Nat){R:Type}(x12:List UInt8)(x13:Int)(x14:List UInt8)(rec_:(List UInt8)->(Int)->(List UInt8)->Option R)(o0:(List UInt8)->Option R)(o1:(List UInt8)->(Int)->(List UInt8)->Option R):Option R:=
 (cond (decide (x13<(((yb x12):Nat):Int))) (cond (inb x13 (yb x12)) (cond ((nth .u8 x12 (yc x13)) != 34) (cond (inb x13 (yb x12)) (cond ((nth .u8 x12 (yc x13))==92) (cond (decide ((((yb x12):Nat):Int)<=(ya .i64 (x13+1)))) (o0 x14) (cond (inb (ya .i64 (x13+1)) (yb x12)) (cond ((nth .u8 x12 (yc (ya .i64 (x13+1)))) != 34) (cond (inb (ya .i64 (x13+1)) (yb x12)) (cond ((nth .u8 x12 (yc (ya .i64 (x13+1)))) != 92) (o0 x14) (cond (inb (ya .i64 (x13+1)) (yb x12)) (yd (j5 N (nth .u8 x12 (yc (ya .i64 (x13+1))))) fun y19=>(cond (!y19.1) (o0 x14) (cond (inb (ya .i64 (x13+1)) (yb x12)) (cond (yq ((yb x14)+1) qc) (rec_ x12 (ya .i64 ((ya .i64 (x13+1))+1)) (x14++([(nth .u8 x12 (yc (ya .i64 (x13+1))))]:List UInt8))) none) none))) none)) none) (cond (inb (ya .i64 (x13+1)) (yb x12)) (yd (j5 N (nth .u8 x12 (yc (ya .i64 (x13+1))))) fun y20=>(cond (!y20.1) (o0 x14) (cond (inb (ya .i64 (x13+1)) (yb x12)) (cond (yq ((yb x14)+1) qc) (rec_ x12 (ya .i64 ((ya .i64 (x13+1))+1)) (x14++([(nth .u8 x12 (yc (ya .i64 (x13+1))))]:List UInt8))) none) none))) none)) none)) (cond (inb x13 (yb x12)) (yd (j5 N (nth .u8 x12 (yc x13))) fun y21=>(cond (!y21.1) (o0 x14) (cond (inb x13 (yb x12)) (cond (yq ((yb x14)+1) qc) (rec_ x12 (ya .i64 (x13+1)) (x14++([(nth .u8 x12 (yc x13))]:List UInt8))) none) none))) none)) none) (o1 x12 x13 x14)) none) (o1 x12 x13 x14))
def zY(N:Nat):Nat->(List UInt8)->(Int)->(List UInt8)->Option (((List UInt8)) ⊕ ((List UInt8)×(Int)×(List UInt8)))
 |0,_,_,_=>none
 |m+1,x12,x13,x14=>ke N x12 x13 x14 (zY N m) (fun v0=>some (Sum.inl v0)) (fun v0 v1 v2=>some (Sum.inr (v0,v1,v2)))
def jZ(N:Nat)(p0:(List UInt8))(p1:Int):Option ((List UInt8)×Int×Bool×Unit):=
 (cond (decide (p1<0)) (some ([],0,false,())) (cond (decide ((((yb p0):Nat):Int)<=p1)) (some ([],0,false,())) (cond (inb p1 (yb p0)) (cond ((nth .u8 p0 (yc p1)) != 34) (some ([],0,false,())) (yd (zY N N p0 (ya .i64 (p1+1)) []) fun o26=>(zi o26 (fun a27=>(some ([],0,false,()))) (fun b28=>(cond (decide ((((yb b28.1):Nat):Int)<=b28.2.1)) (some ([],0,false,())) (some (b28.2.2,(ya .i64 (b28.2.1+1)),true,()))))))) none)))
def xM(N:Nat){R:Type}(x2:Int)(x3:List UInt8)(rec_:(Int)->(List UInt8)->Option R)(o0:(Int)->(List UInt8)->Option R):Option R:=
 (cond (decide ((10:Int)<=x2)) (cond (qZ (yi x2 (10:Int)) (ya .u32 ((yi x2 (10:Int))+(1:Int))) 10) (cond (decide (yb (slice ([48,49,50,51,52,53,54,55,56,57]:List UInt8) (yc (yi x2 (10:Int))) (yc (ya .u32 ((yi x2 (10:Int))+(1:Int)))))+yb x3<4611686018427387904)) (rec_ (ya .u32 (yp x2 (10:Int))) ((slice ([48,49,50,51,52,53,54,55,56,57]:List UInt8) (yc (yi x2 (10:Int))) (yc (ya .u32 ((yi x2 (10:Int))+(1:Int)))))++x3)) none) none) (o0 x2 x3))
def qp(N:Nat):Nat->(Int)->(List UInt8)->Option ((Int)×(List UInt8))
 |0,_,_=>none
 |m+1,x2,x3=>xM N x2 x3 (qp N m) (fun v0 v1=>some (v0,v1))
def km(N:Nat)(p0:Int):Option ((List UInt8)×Unit):=
 (yd (qp N N p0 ([]:List UInt8)) fun o5=>(cond (qZ o5.1 (ya .u32 (o5.1+1)) 10) (cond (decide (yb (slice ([48,49,50,51,52,53,54,55,56,57]:List UInt8) (yc o5.1) (yc (ya .u32 (o5.1+1))))+yb o5.2<4611686018427387904)) (some (((slice ([48,49,50,51,52,53,54,55,56,57]:List UInt8) (yc o5.1) (yc (ya .u32 (o5.1+1))))++o5.2),())) none) none))
def zaw(N:Nat){R:Type}(x2:List UInt8)(x3:Int)(x4:Int)(rec_:(List UInt8)->(Int)->(Int)->Option R)(o0:Unit->Option R)(o1:(List UInt8)->(Int)->Option R):Option R:=
 (cond (decide (x4<(((yb x2):Nat):Int))) (cond (inb x4 (yb x2)) (cond (decide ((nth .u8 x2 (yc x4))<48)) (o0 ()) (cond (inb x4 (yb x2)) (cond (decide (57<(nth .u8 x2 (yc x4)))) (o0 ()) (cond (inb x4 (yb x2)) (rec_ x2 (ya .u64 ((ya .u64 (10*x3))+(ya .u64 ((ym ((nth .u8 x2 (yc x4))-48):Nat):Int)))) (ya .i64 (x4+1))) none)) none)) none) (o1 x2 x3))
def qH(N:Nat):Nat->(List UInt8)->(Int)->(Int)->Option ((Unit) ⊕ ((List UInt8)×(Int)))
 |0,_,_,_=>none
 |m+1,x2,x3,x4=>zaw N x2 x3 x4 (qH N m) (fun _=>some (Sum.inl ())) (fun v0 v1=>some (Sum.inr (v0,v1)))
def jQ(N:Nat)(p0:(List UInt8)):Option (Int×Bool×Unit):=
 (cond (decide (10<(((yb p0):Nat):Int))) (some (0,false,())) (yd (qH N N p0 0 0) fun o10=>(zi o10 (fun a11=>(some (0,false,()))) (fun b12=>(cond (decide (4294967295<b12.2)) (some (0,false,())) (yd (km N (ya .u32 b12.2)) fun y13=>(cond (y13.1 != b12.1) (some (0,false,())) (some ((ya .u32 b12.2),true,())))))))))
def ka(N:Nat){R:Type}(x1:List UInt8)(x2:Int)(x3:Int)(rec_:(List UInt8)->(Int)->(Int)->Option R)(o0:(List UInt8)->(Int)->(Int)->Option R):Option R:=
 (cond (decide (x3<(((yb x1):Nat):Int))) (cond (inb x3 (yb x1)) (cond ((nth .u8 x1 (yc x3)) != 125) (cond (decide ((ya .i64 (x3-x2))<=12)) (rec_ x1 x2 (ya .i64 (x3+1))) (o0 x1 x2 x3)) (o0 x1 x2 x3)) none) (o0 x1 x2 x3))
def zX(N:Nat):Nat->(List UInt8)->(Int)->(Int)->Option ((List UInt8)×(Int)×(Int))
 |0,_,_,_=>none
 |m+1,x1,x2,x3=>ka N x1 x2 x3 (zX N m) (fun v0 v1 v2=>some (v0,v1,v2))
def qN(N:Nat)(p0:(List UInt8))(p1:Int):Option ((List UInt8)×Int×Bool×Unit):=
 (cond (decide (p1<0)) (some ([],0,false,())) (cond (decide ((((yb p0):Nat):Int)<=p1)) (some ([],0,false,())) (cond (inb p1 (yb p0)) (cond ((nth .u8 p0 (yc p1)) != 123) (some ([],0,false,())) (yd (zX N N p0 p1 (ya .i64 (p1+1))) fun o5=>(cond (decide ((((yb o5.1):Nat):Int)<=o5.2.2)) (some ([],0,false,())) (cond (inb o5.2.2 (yb o5.1)) (cond ((nth .u8 o5.1 (yc o5.2.2)) != 125) (some ([],0,false,())) (cond ((qZ (ya .i64 (o5.2.1+1)) o5.2.2 (yb o5.1))&&true) (yd (jQ N (slice o5.1 (yc (ya .i64 (o5.2.1+1))) (yc o5.2.2))) fun y6=>(cond (!y6.2.1) (some ([],0,false,())) (cond (decide (65536<y6.1)) (some ([],0,false,())) (cond (decide ((((yb o5.1):Nat):Int)<(ya .i64 (o5.2.2+3)))) (some ([],0,false,())) (cond (inb (ya .i64 (o5.2.2+1)) (yb o5.1)) (cond ((nth .u8 o5.1 (yc (ya .i64 (o5.2.2+1)))) != 13) (some ([],0,false,())) (cond (inb (ya .i64 (o5.2.2+2)) (yb o5.1)) (cond ((nth .u8 o5.1 (yc (ya .i64 (o5.2.2+2)))) != 10) (some ([],0,false,())) (cond (decide ((ya .i64 ((((yb o5.1):Nat):Int)-(ya .i64 (o5.2.2+3))))<(ya .i64 y6.1))) (some ([],0,false,())) (cond ((qZ (ya .i64 (o5.2.2+3)) (ya .i64 ((ya .i64 (o5.2.2+3))+(ya .i64 y6.1))) (yb o5.1))&&true) (cond (yq (0+(yb (slice o5.1 (yc (ya .i64 (o5.2.2+3))) (yc (ya .i64 ((ya .i64 (o5.2.2+3))+(ya .i64 y6.1))))))) qc) (some (([]++(slice o5.1 (yc (ya .i64 (o5.2.2+3))) (yc (ya .i64 ((ya .i64 (o5.2.2+3))+(ya .i64 y6.1)))))),(ya .i64 ((ya .i64 (o5.2.2+3))+(ya .i64 y6.1))),true,())) none) none))) none)) none))))) none)) none)))) none)))
def jL(N:Nat)(p0:UInt8):Option (Bool×Unit):=
 (cond (decide (32<p0)) (cond (decide (p0<127)) (cond (p0 != 40) (cond (p0 != 41) (cond (p0 != 34) (some ((p0 != 123),())) (some (false,()))) (some (false,()))) (some (false,()))) (some (false,()))) (some (false,())))
def zbC(N:Nat){R:Type}(x3:List UInt8)(x4:Int)(x5:Int)(rec_:(List UInt8)->(Int)->(Int)->Option R)(o0:(List UInt8)->(Int)->(Int)->Option R):Option R:=
 (cond (decide (x5<(((yb x3):Nat):Int))) (cond (inb x5 (yb x3)) (yd (jL N (nth .u8 x3 (yc x5))) fun y8=>(cond y8.1 (rec_ x3 x4 (ya .i64 (x5+1))) (o0 x3 x4 x5))) none) (o0 x3 x4 x5))
def ju(N:Nat):Nat->(List UInt8)->(Int)->(Int)->Option ((List UInt8)×(Int)×(Int))
 |0,_,_,_=>none
 |m+1,x3,x4,x5=>zbC N x3 x4 x5 (ju N m) (fun v0 v1 v2=>some (v0,v1,v2))
def xx(N:Nat)(p0:(List UInt8))(p1:Int):Option ((El uS1)×Int×Bool×Unit):=
 (cond (p1==(((yb p0):Nat):Int)) (some ((0,([],p1)),p1,true,())) (cond (inb p1 (yb p0)) (cond ((nth .u8 p0 (yc p1))==32) (some ((1,([],p1)),(ya .i64 (p1+1)),true,())) (cond ((nth .u8 p0 (yc p1))==40) (some ((2,([],p1)),(ya .i64 (p1+1)),true,())) (cond ((nth .u8 p0 (yc p1))==41) (some ((3,([],p1)),(ya .i64 (p1+1)),true,())) (cond ((nth .u8 p0 (yc p1))==34) (yd (jZ N p0 p1) fun y1=>(some ((5,(y1.1,p1)),y1.2.1,y1.2.2.1,()))) (cond ((nth .u8 p0 (yc p1))==123) (yd (qN N p0 p1) fun y2=>(some ((6,(y2.1,p1)),y2.2.1,y2.2.2.1,()))) (yd (ju N N p0 p1 p1) fun o9=>(cond ((qZ o9.2.1 o9.2.2 (yb o9.1))&&true) (some ((4,((slice o9.1 (yc o9.2.1) (yc o9.2.2)),p1)),o9.2.2,(decide (o9.2.1<o9.2.2)),())) none))))))) none))
def xO(N:Nat){R:Type}(x10:List UInt8)(x11:Int)(x12:List (El uS1))(rec_:(List UInt8)->(Int)->(List (El uS1))->Option R)(o0:(Int)->(List (El uS1))->Option R)(o1:(List (El uS1))->Option R):Option R:=
 (yd (xx N x10 x11) fun y15=>(cond (!y15.2.2.1) (o0 x11 x12) (cond (yq ((yb x12)+1) qc) (cond (y15.1.1==0) (o1 (x12++([y15.1]:List (El uS1)))) (rec_ x10 y15.2.1 (x12++([y15.1]:List (El uS1))))) none)))
def zU(N:Nat):Nat->(List UInt8)->(Int)->(List (El uS1))->Option (((Int)×(List (El uS1))) ⊕ ((List (El uS1))))
 |0,_,_,_=>none
 |m+1,x10,x11,x12=>xO N x10 x11 x12 (zU N m) (fun v0 v1=>some (Sum.inl (v0,v1))) (fun v0=>some (Sum.inr v0))
def kZ(N:Nat)(p0:(List UInt8)):Option ((List (El uS1))×Int×Unit):=
 (yd (zU N N p0 0 []) fun o20=>(zi o20 (fun a21=>(some ([],a21.1,()))) (fun b22=>(some (b22,(-1),())))))
def zfE(N:Nat)(p0:Int):Option ((List UInt8)×Unit):=
 (cond (decide (p0<1)) (some ([],())) (cond (decide (8<p0)) (some ([],())) (cond (inb (ya .i64 (p0-1)) 8) (some ((nth .str ([[78,79,79,80],[76,79,71,79,85,84],[67,76,79,83,69],[69,88,80,85,78,71,69],[83,69,76,69,67,84],[65,80,80,69,78,68],[70,69,84,67,72],[83,84,79,82,69]]:List (List UInt8)) (yc (ya .i64 (p0-1)))),())) none)))
def za1(N:Nat){R:Type}(x2:List UInt8)(x3:List UInt8)(x4:Int)(rec_:(List UInt8)->(List UInt8)->(Int)->Option R)(o0:(List UInt8)->Option R):Option R:=
 (cond (decide (x4<(((yb x2):Nat):Int))) (cond (inb x4 (yb x2)) (cond (decide (97<=(nth .u8 x2 (yc x4)))) (cond (decide ((nth .u8 x2 (yc x4))<=122)) (cond (decide (yb x3+yb ([((nth .u8 x2 (yc x4))-32)]:List UInt8)<4611686018427387904)) (rec_ x2 (x3++([((nth .u8 x2 (yc x4))-32)]:List UInt8)) (ya .i64 (x4+1))) none) (cond (decide (yb x3+yb ([(nth .u8 x2 (yc x4))]:List UInt8)<4611686018427387904)) (rec_ x2 (x3++([(nth .u8 x2 (yc x4))]:List UInt8)) (ya .i64 (x4+1))) none)) (cond (decide (yb x3+yb ([(nth .u8 x2 (yc x4))]:List UInt8)<4611686018427387904)) (rec_ x2 (x3++([(nth .u8 x2 (yc x4))]:List UInt8)) (ya .i64 (x4+1))) none)) none) (o0 x3))
def jd(N:Nat):Nat->(List UInt8)->(List UInt8)->(Int)->Option ((List UInt8))
 |0,_,_,_=>none
 |m+1,x2,x3,x4=>za1 N x2 x3 x4 (jd N m) (fun v0=>some v0)
def zm(N:Nat)(p0:(List UInt8)):Option ((List UInt8)×Unit):=
 (yd (jd N N p0 [] 0) fun o6=>(some (o6,())))
def zeh(N:Nat){R:Type}(x6:List UInt8)(x7:Int)(rec_:(List UInt8)->(Int)->Option R)(o0:(Int)->Option R)(o1:Unit->Option R):Option R:=
 (cond (decide (x7<=8)) (yd (zfE N x7) fun y11=>(yd (zm N x6) fun y12=>(cond (y11.1==y12.1) (o0 x7) (rec_ x6 (ya .i64 (x7+1)))))) (o1 ()))
def zb(N:Nat):Nat->(List UInt8)->(Int)->Option (((Int)) ⊕ (Unit))
 |0,_,_=>none
 |m+1,x6,x7=>zeh N x6 x7 (zb N m) (fun v0=>some (Sum.inl v0)) (fun _=>some (Sum.inr ()))
def kg(N:Nat)(p0:(List UInt8)):Option (Int×Unit):=
 (yd (zb N N p0 1) fun o17=>(zi o17 (fun a18=>(some (a18,()))) (fun b19=>(some (0,())))))
def zba(N:Nat){R:Type}(x2:List (El uS1))(x3:List UInt8)(x4:Int)(rec_:(List (El uS1))->(List UInt8)->(Int)->Option R)(o0:(List UInt8)->Option R):Option R:=
 (cond (decide (x4<(((yb x2):Nat):Int))) (cond (inb x4 (yb x2)) (cond (inb x4 (yb x2)) (cond (qZ (nth uS1 x2 (yc x4)).1 (ya .i64 ((nth uS1 x2 (yc x4)).1+1)) 7) (cond (decide (yb x3+yb (slice ([101,115,40,41,119,113,108]:List UInt8) (yc (nth uS1 x2 (yc x4)).1) (yc (ya .i64 ((nth uS1 x2 (yc x4)).1+1))))<4611686018427387904)) (rec_ x2 (x3++(slice ([101,115,40,41,119,113,108]:List UInt8) (yc (nth uS1 x2 (yc x4)).1) (yc (ya .i64 ((nth uS1 x2 (yc x4)).1+1))))) (ya .i64 (x4+1))) none) none) none) none) (o0 x3))
def jg(N:Nat):Nat->(List (El uS1))->(List UInt8)->(Int)->Option ((List UInt8))
 |0,_,_,_=>none
 |m+1,x2,x3,x4=>zba N x2 x3 x4 (jg N m) (fun v0=>some v0)
def zac(N:Nat)(p0:(List (El uS1))):Option ((List UInt8)×Unit):=
 (yd (jg N N p0 [] 0) fun o6=>(some (o6,())))
def xA(N:Nat){R:Type}(x6:Int)(x7:Int)(x8:List UInt8)(x9:Int)(rec_:(Int)->(Int)->(List UInt8)->(Int)->Option R)(o0:(Int)->(List UInt8)->(Int)->Option R)(o1:(Int)->(List UInt8)->(Int)->Option R):Option R:=
 (cond (decide (x6<(((yb x8):Nat):Int))) (cond (inb x6 (yb x8)) (yd (wY N (nth .u8 x8 (yc x6))) fun y12=>(cond (!y12.1) (cond (inb x6 (yb x8)) (cond ((nth .u8 x8 (yc x6)) != 93) (o0 x7 x8 x9) (rec_ (ya .i64 (x6+1)) x7 x8 x9)) none) (rec_ (ya .i64 (x6+1)) x7 x8 x9))) none) (o1 x7 x8 x9))
def qk(N:Nat):Nat->(Int)->(Int)->(List UInt8)->(Int)->Option (((Int)×(List UInt8)×(Int)) ⊕ ((Int)×(List UInt8)×(Int)))
 |0,_,_,_,_=>none
 |m+1,x6,x7,x8,x9=>xA N x6 x7 x8 x9 (qk N m) (fun v0 v1 v2=>some (Sum.inl (v0,v1,v2))) (fun v0 v1 v2=>some (Sum.inr (v0,v1,v2)))
def ku(N:Nat)(p0:(El uS1)):Option (Bool×Unit):=
 (cond (p0.1 != 4) (cond (p0.1==5) (some (true,())) (some ((p0.1==6),()))) (yd (qk N N 0 p0.1 p0.2.1 p0.2.2) fun o17=>(zi o17 (fun a18=>(some (false,()))) (fun b19=>(some (true,()))))))
def zfD(N:Nat)(p0:Int):Option ((List UInt8)×Unit):=
 (cond (p0==1) (some ([92,65,110,115,119,101,114,101,100],())) (cond (p0==2) (some ([92,70,108,97,103,103,101,100],())) (cond (p0==4) (some ([92,68,101,108,101,116,101,100],())) (cond (p0==8) (some ([92,83,101,101,110],())) (cond (p0==16) (some ([92,68,114,97,102,116],())) (some ([],())))))))
def zek(N:Nat){R:Type}(x8:List UInt8)(x9:Int)(rec_:(List UInt8)->(Int)->Option R)(o0:(Int)->Option R)(o1:Unit->Option R):Option R:=
 (cond (decide (x9<=16)) (yd (zfD N x9) fun y14=>(yd (zm N y14.1) fun y15=>(yd (zm N x8) fun y16=>(cond (y15.1==y16.1) (o0 x9) (rec_ x8 (ya .i64 (2*x9))))))) (o1 ()))
def zk(N:Nat):Nat->(List UInt8)->(Int)->Option (((Int)) ⊕ (Unit))
 |0,_,_=>none
 |m+1,x8,x9=>zek N x8 x9 (zk N m) (fun v0=>some (Sum.inl v0)) (fun _=>some (Sum.inr ()))
def xy(N:Nat)(p0:(List UInt8)):Option (Int×Unit):=
 (yd (zk N N p0 1) fun o21=>(zi o21 (fun a22=>(some (a22,()))) (fun b23=>(some (0,())))))
def zcx(N:Nat)(p0:Int):Option ((List UInt8)×Unit):=
 (cond (p0==1) (some ([70,76,65,71,83],())) (cond (p0==2) (some ([85,73,68],())) (cond (p0==4) (some ([82,70,67,56,50,50,46,83,73,90,69],())) (cond (p0==8) (some ([66,79,68,89,46,80,69,69,75,91,93],())) (cond (p0==16) (some ([66,79,68,89,91,93],())) (some ([],())))))))
def zef(N:Nat){R:Type}(x6:List UInt8)(x7:Int)(rec_:(List UInt8)->(Int)->Option R)(o0:(Int)->Option R)(o1:Unit->Option R):Option R:=
 (cond (decide (x7<=16)) (yd (zcx N x7) fun y11=>(yd (zm N x6) fun y12=>(cond (y11.1==y12.1) (o0 x7) (rec_ x6 (ya .i64 (2*x7)))))) (o1 ()))
def zj(N:Nat):Nat->(List UInt8)->(Int)->Option (((Int)) ⊕ (Unit))
 |0,_,_=>none
 |m+1,x6,x7=>zef N x6 x7 (zj N m) (fun v0=>some (Sum.inl v0)) (fun _=>some (Sum.inr ()))
def kf(N:Nat)(p0:(List UInt8)):Option (Int×Unit):=
 (yd (zj N N p0 1) fun o17=>(zi o17 (fun a18=>(some (a18,()))) (fun b19=>(some (0,())))))
def wN(N:Nat){R:Type}(x5:List (El uS1))(x6:Bool)(x7:Int)(x8:Int)(rec_:(List (El uS1))->(Bool)->(Int)->(Int)->Option R)(o0:Unit->Option R)(o1:(List (El uS1))->(Int)->Option R):Option R:=
 (cond (decide (x8<(((yb x5):Nat):Int))) (cond ((yi x8 2)==1) (cond (inb x8 (yb x5)) (cond ((nth uS1 x5 (yc x8)).1 != 1) (o0 ()) (rec_ x5 x6 x7 (ya .i64 (x8+1)))) none) (cond (inb x8 (yb x5)) (cond ((nth uS1 x5 (yc x8)).1==4) (cond (inb x8 (yb x5)) (yd (xy N (nth uS1 x5 (yc x8)).2.1) fun y12=>(cond x6 (cond (inb x8 (yb x5)) (yd (kf N (nth uS1 x5 (yc x8)).2.1) fun y13=>(cond (y13.1==0) (o0 ()) (rec_ x5 x6 (zaf .or .i64 x7 y13.1) (ya .i64 (x8+1))))) none) (cond (y12.1==0) (o0 ()) (rec_ x5 x6 (zaf .or .i64 x7 y12.1) (ya .i64 (x8+1)))))) none) (o0 ())) none)) (o1 x5 x7))
def zH(N:Nat):Nat->(List (El uS1))->(Bool)->(Int)->(Int)->Option ((Unit) ⊕ ((List (El uS1))×(Int)))
 |0,_,_,_,_=>none
 |m+1,x5,x6,x7,x8=>wN N x5 x6 x7 x8 (zH N m) (fun _=>some (Sum.inl ())) (fun v0 v1=>some (Sum.inr (v0,v1)))
def wo(N:Nat)(p0:(List (El uS1)))(p1:Bool):Option (Int×Bool×Unit):=
 (yd (zH N N p0 p1 0 0) fun o18=>(zi o18 (fun a19=>(some (0,false,()))) (fun b20=>(some (b20.2,((yi (((yb b20.1):Nat):Int) 2)==1),())))))
def jC(N:Nat)(p0:(List (El uS1)))(p1:Bool):Option (Int×Bool×Unit):=
 (cond (decide ((((yb p0):Nat):Int)<2)) (some (0,false,())) (cond (inb 0 (yb p0)) (cond ((nth uS1 p0 0).1 != 2) (some (0,false,())) (cond (inb (ya .i64 ((((yb p0):Nat):Int)-1)) (yb p0)) (cond ((nth uS1 p0 (yc (ya .i64 ((((yb p0):Nat):Int)-1)))).1 != 3) (some (0,false,())) (cond ((((yb p0):Nat):Int)==2) (some (0,(!p1),())) (cond ((qZ 1 (ya .i64 ((((yb p0):Nat):Int)-1)) (yb p0))&&true) (yd (wo N (slice p0 1 (yc (ya .i64 ((((yb p0):Nat):Int)-1)))) p1) fun y1=>(some (y1.1,y1.2.1,()))) none))) none)) none))
def jf(N:Nat)(p0:(El uS2))(p1:(List (El uS1))):Option ((El uS2)×Bool×Unit):=
 (cond ((((yb p1):Nat):Int)==0) (some (p0,false,())) (cond (inb (ya .i64 ((((yb p1):Nat):Int)-1)) (yb p1)) (cond ((nth uS1 p1 (yc (ya .i64 ((((yb p1):Nat):Int)-1)))).1 != 6) (some (p0,false,())) (cond (inb (ya .i64 ((((yb p1):Nat):Int)-1)) (yb p1)) (cond (yq (yb (nth uS1 p1 (yc (ya .i64 ((((yb p1):Nat):Int)-1)))).2.1) qc) (cond ((((yb p1):Nat):Int)==1) (some ((p0.1,(p0.2.1,(p0.2.2.1,(p0.2.2.2.1,(p0.2.2.2.2.1,(p0.2.2.2.2.2.1,(p0.2.2.2.2.2.2.1,(p0.2.2.2.2.2.2.2.1,(nth uS1 p1 (yc (ya .i64 ((((yb p1):Nat):Int)-1)))).2.1)))))))),true,())) (cond ((qZ 0 (ya .i64 ((((yb p1):Nat):Int)-2)) (yb p1))&&true) (yd (jC N (slice p1 0 (yc (ya .i64 ((((yb p1):Nat):Int)-2)))) false) fun y1=>(cond y1.2.1 (cond (inb (ya .i64 ((((yb p1):Nat):Int)-2)) (yb p1)) (some ((p0.1,(p0.2.1,(p0.2.2.1,(p0.2.2.2.1,(p0.2.2.2.2.1,(p0.2.2.2.2.2.1,(p0.2.2.2.2.2.2.1,((zbv y1.1),(nth uS1 p1 (yc (ya .i64 ((((yb p1):Nat):Int)-1)))).2.1)))))))),((nth uS1 p1 (yc (ya .i64 ((((yb p1):Nat):Int)-2)))).1==1),())) none) (some ((p0.1,(p0.2.1,(p0.2.2.1,(p0.2.2.2.1,(p0.2.2.2.2.1,(p0.2.2.2.2.2.1,(p0.2.2.2.2.2.2.1,((zbv y1.1),(nth uS1 p1 (yc (ya .i64 ((((yb p1):Nat):Int)-1)))).2.1)))))))),false,())))) none)) none) none)) none))
def wL(N:Nat){R:Type}(x9:List UInt8)(x10:UInt8)(x11:Int)(x12:Int)(x13:List (List UInt8))(rec_:(List UInt8)->(UInt8)->(Int)->(Int)->(List (List UInt8))->Option R)(o0:(List (List UInt8))->Option R):Option R:=
 (cond (decide (x12<=(((yb x9):Nat):Int))) (cond (x12==(((yb x9):Nat):Int)) (cond (qZ x11 x12 (yb x9)) (cond (yq ((yb x13)+1) qc) (rec_ x9 x10 (ya .i64 (x12+1)) (ya .i64 (x12+1)) (x13++([(slice x9 (yc x11) (yc x12))]:List (List UInt8)))) none) none) (cond (inb x12 (yb x9)) (cond ((nth .u8 x9 (yc x12))==x10) (cond (qZ x11 x12 (yb x9)) (cond (yq ((yb x13)+1) qc) (rec_ x9 x10 (ya .i64 (x12+1)) (ya .i64 (x12+1)) (x13++([(slice x9 (yc x11) (yc x12))]:List (List UInt8)))) none) none) (rec_ x9 x10 x11 (ya .i64 (x12+1)) x13)) none)) (o0 x13))
def qb(N:Nat):Nat->(List UInt8)->(UInt8)->(Int)->(Int)->(List (List UInt8))->Option ((List (List UInt8)))
 |0,_,_,_,_,_=>none
 |m+1,x9,x10,x11,x12,x13=>wL N x9 x10 x11 x12 x13 (qb N m) (fun v0=>some v0)
def kq(N:Nat)(p0:(List UInt8))(p1:UInt8):Option ((List (List UInt8))×Unit):=
 (yd (qb N N p0 p1 0 0 []) fun o15=>(some (o15,())))
def wD(N:Nat)(p0:(List UInt8)):Option (Int×Bool×Unit):=
 (cond (p0==[42]) (some (0,true,())) (yd (jQ N p0) fun y1=>(cond y1.2.1 (some (y1.1,(decide (0<y1.1)),())) (some (y1.1,false,())))))
def zaz(N:Nat){R:Type}(x16:List (List UInt8))(x17:Int)(x18:List (Int×Int))(rec_:(List (List UInt8))->(Int)->(List (Int×Int))->Option R)(o0:(List (Int×Int))->Option R)(o1:(List (Int×Int))->Option R):Option R:=
 (cond (decide (x17<(((yb x16):Nat):Int))) (cond (inb x17 (yb x16)) (yd (kq N (nth .str x16 (yc x17)) 58) fun y23=>(cond (decide (2<(((yb y23.1):Nat):Int))) (o0 x18) (cond (inb 0 (yb y23.1)) (yd (wD N (nth .str y23.1 0)) fun y24=>(cond (inb (ya .i64 ((((yb y23.1):Nat):Int)-1)) (yb y23.1)) (yd (wD N (nth .str y23.1 (yc (ya .i64 ((((yb y23.1):Nat):Int)-1))))) fun y25=>(cond (!y24.2.1) (o0 x18) (cond (!y25.2.1) (o0 x18) (cond (yq ((yb x18)+1) qc) (rec_ x16 (ya .i64 (x17+1)) (x18++([(y24.1,y25.1)]:List (Int×Int)))) none)))) none)) none))) none) (o1 x18))
def zG(N:Nat):Nat->(List (List UInt8))->(Int)->(List (Int×Int))->Option (((List (Int×Int))) ⊕ ((List (Int×Int))))
 |0,_,_,_=>none
 |m+1,x16,x17,x18=>zaz N x16 x17 x18 (zG N m) (fun v0=>some (Sum.inl v0)) (fun v0=>some (Sum.inr v0))
def ko(N:Nat)(p0:(List UInt8)):Option ((List (Int×Int))×Bool×Unit):=
 (yd (kq N p0 44) fun y1=>(yd (zG N N y1.1 0 []) fun o30=>(zi o30 (fun a31=>(some ([],false,()))) (fun b32=>(some (b32,true,()))))))
def zbb(N:Nat)(p0:(List UInt8)):Option (Int×Bool×Unit):=
 (yd (zm N p0) fun y1=>(cond (decide (7<(((yb y1.1):Nat):Int))) (cond (qZ (ya .i64 ((((yb y1.1):Nat):Int)-7)) (((yb y1.1):Nat):Int) (yb y1.1)) (cond ((slice y1.1 (yc (ya .i64 ((((yb y1.1):Nat):Int)-7))) (yc (((yb y1.1):Nat):Int)))==[46,83,73,76,69,78,84]) (cond (qZ 0 (ya .i64 ((((yb y1.1):Nat):Int)-7)) (yb y1.1)) (cond ((slice y1.1 0 (yc (ya .i64 ((((yb y1.1):Nat):Int)-7))))==[70,76,65,71,83]) (some (0,true,())) (cond ((slice y1.1 0 (yc (ya .i64 ((((yb y1.1):Nat):Int)-7))))==[43,70,76,65,71,83]) (some (1,true,())) (cond ((slice y1.1 0 (yc (ya .i64 ((((yb y1.1):Nat):Int)-7))))==[45,70,76,65,71,83]) (some (2,true,())) (some ((-1),false,()))))) none) (cond (y1.1==[70,76,65,71,83]) (some (0,false,())) (cond (y1.1==[43,70,76,65,71,83]) (some (1,false,())) (cond (y1.1==[45,70,76,65,71,83]) (some (2,false,())) (some ((-1),false,())))))) none) (cond (y1.1==[70,76,65,71,83]) (some (0,false,())) (cond (y1.1==[43,70,76,65,71,83]) (some (1,false,())) (cond (y1.1==[45,70,76,65,71,83]) (some (2,false,())) (some ((-1),false,())))))))
def za7(N:Nat)(p0:(List UInt8))(p1:(List (El uS1))):Option ((El uS2)×Bool×Unit):=
 (cond ((((yb p1):Nat):Int)==0) (some ((p0,(0,([],([],(0,(0,(false,(0,[])))))))),false,())) (cond (inb 0 (yb p1)) (cond ((nth uS1 p1 0).1 != 4) (some ((p0,(0,([],([],(0,(0,(false,(0,[])))))))),false,())) (cond (inb 0 (yb p1)) (yd (kg N (nth uS1 p1 0).2.1) fun y1=>(cond (y1.1==0) (cond (decide (0<y1.1)) (some ((p0,(y1.1,([],([],(0,(0,(false,(0,[])))))))),((((yb p1):Nat):Int)==1),())) (some ((p0,(y1.1,([],([],(0,(0,(false,(0,[])))))))),false,()))) (cond (decide (y1.1<=4)) (cond (decide (0<y1.1)) (some ((p0,(y1.1,([],([],(0,(0,(false,(0,[])))))))),((((yb p1):Nat):Int)==1),())) (some ((p0,(y1.1,([],([],(0,(0,(false,(0,[])))))))),false,()))) (yd (zac N p1) fun y2=>(cond (decide ((((yb p1):Nat):Int)<3)) (some ((p0,(y1.1,([],([],(0,(0,(false,(0,[])))))))),false,())) (cond (inb 1 (yb y2.1)) (cond ((nth .u8 y2.1 1) != 115) (some ((p0,(y1.1,([],([],(0,(0,(false,(0,[])))))))),false,())) (cond (decide (y1.1<=6)) (cond (inb 2 (yb p1)) (cond (inb 2 (yb p1)) (yd (ku N (nth uS1 p1 2)) fun y3=>(cond (!y3.1) (some ((p0,(y1.1,((nth uS1 p1 2).2.1,([],(0,(0,(false,(0,[])))))))),false,())) (cond (y1.1==5) (some ((p0,(y1.1,((nth uS1 p1 2).2.1,([],(0,(0,(false,(0,[])))))))),((((yb p1):Nat):Int)==3),())) (cond (decide ((((yb p1):Nat):Int)<4)) (some ((p0,(y1.1,((nth uS1 p1 2).2.1,([],(0,(0,(false,(0,[])))))))),false,())) (cond (inb 3 (yb y2.1)) (cond ((nth .u8 y2.1 3) != 115) (some ((p0,(y1.1,((nth uS1 p1 2).2.1,([],(0,(0,(false,(0,[])))))))),false,())) (cond (z8 4 p1&&true) (yd (jf N (p0,(y1.1,((nth uS1 p1 2).2.1,([],(0,(0,(false,(0,[])))))))) (ze p1 4)) fun y4=>(some (y4.1,y4.2.1,()))) none)) none))))) none) none) (cond (inb 2 (yb p1)) (yd (ko N (nth uS1 p1 2).2.1) fun y5=>(cond (inb 2 (yb p1)) (cond ((nth uS1 p1 2).1 != 4) (some ((p0,(y1.1,([],([],(0,(0,(false,(0,[])))))))),false,())) (cond (!y5.2.1) (some ((p0,(y1.1,([],([],(0,(0,(false,(0,[])))))))),false,())) (cond (decide ((((yb p1):Nat):Int)<5)) (some ((p0,(y1.1,([],([],(0,(0,(false,(0,[])))))))),false,())) (cond (inb 3 (yb y2.1)) (cond ((nth .u8 y2.1 3) != 115) (some ((p0,(y1.1,([],([],(0,(0,(false,(0,[])))))))),false,())) (cond (y1.1==7) (cond (z8 4 p1&&true) (yd (jC N (ze p1 4) true) fun y6=>(cond ((((yb p1):Nat):Int)==5) (cond (z8 4 p1&&true) (yd (wo N (ze p1 4) true) fun y7=>(some ((p0,(y1.1,([],(y5.1,(y7.1,(0,(false,(0,[])))))))),y7.2.1,()))) none) (some ((p0,(y1.1,([],(y5.1,(y6.1,(0,(false,(0,[])))))))),y6.2.1,())))) none) (cond (inb 4 (yb p1)) (yd (zbb N (nth uS1 p1 4).2.1) fun y8=>(cond (inb 4 (yb p1)) (cond ((nth uS1 p1 4).1 != 4) (some ((p0,(y1.1,([],(y5.1,(0,(0,(false,(0,[])))))))),false,())) (cond (decide (y8.1<0)) (some ((p0,(y1.1,([],(y5.1,(0,(0,(false,(0,[])))))))),false,())) (cond (decide ((((yb p1):Nat):Int)<7)) (some ((p0,(y1.1,([],(y5.1,(0,(0,(false,(0,[])))))))),false,())) (cond (inb 5 (yb y2.1)) (cond ((nth .u8 y2.1 5) != 115) (some ((p0,(y1.1,([],(y5.1,(0,(0,(false,(0,[])))))))),false,())) (cond (z8 6 p1&&true) (yd (jC N (ze p1 6) false) fun y9=>(cond (!y9.2.1) (cond (z8 6 p1&&true) (yd (wo N (ze p1 6) false) fun y10=>(some ((p0,(y1.1,([],(y5.1,(0,(y8.1,(y8.2.1,((zbv y10.1),[])))))))),y10.2.1,()))) none) (some ((p0,(y1.1,([],(y5.1,(0,(y8.1,(y8.2.1,((zbv y9.1),[])))))))),y9.2.1,())))) none)) none)))) none)) none))) none)))) none)) none))) none)))))) none)) none))
def zab(N:Nat)(p0:(List UInt8)):Option ((El uS2)×Bool×Unit):=
 (yd (zb7 N p0) fun y1=>(cond (!y1.2.2.1) (some (([],(0,([],([],(0,(0,(false,(0,[])))))))),false,())) (cond (z8 y1.2.1 p0&&true) (yd (kZ N (ze p0 (yc y1.2.1))) fun y2=>(cond (decide (0<=y2.2.1)) (some ((y1.1,(0,([],([],(0,(0,(false,(0,[])))))))),false,())) (cond ((qZ 0 (ya .i64 ((((yb y2.1):Nat):Int)-1)) (yb y2.1))&&true) (yd (za7 N y1.1 (slice y2.1 0 (yc (ya .i64 ((((yb y2.1):Nat):Int)-1))))) fun y3=>(cond (!y3.2.1) (some ((y1.1,(0,([],([],(0,(0,(false,(0,[])))))))),false,())) (some (y3.1,true,())))) none))) none)))
def za6(N:Nat){R:Type}(x19:Int)(x20:List UInt8)(x21:Int)(x22:List UInt8)(x23:List (Int×Int))(x24:Int)(x25:Int)(x26:Bool)(x27:UInt8)(x28:List UInt8)(x29:List UInt8)(x30:Int)(x31:List UInt8)(x32:List (Int×Int))(x33:Int)(x34:Int)(x35:Bool)(x36:UInt8)(x37:List UInt8)(rec_:(Int)->(List UInt8)->(Int)->(List UInt8)->(List (Int×Int))->(Int)->(Int)->(Bool)->(UInt8)->(List UInt8)->(List UInt8)->(Int)->(List UInt8)->(List (Int×Int))->(Int)->(Int)->(Bool)->(UInt8)->(List UInt8)->Option R)(o0:(List UInt8)->(Int)->(List UInt8)->(List (Int×Int))->(Int)->(Int)->(Bool)->(UInt8)->(List UInt8)->(List UInt8)->(Int)->(List UInt8)->(List (Int×Int))->(Int)->(Int)->(Bool)->(UInt8)->(List UInt8)->Option R)(o1:(List UInt8)->(Int)->(List UInt8)->(List (Int×Int))->(Int)->(Int)->(Bool)->(UInt8)->(List UInt8)->(List UInt8)->(Int)->(List UInt8)->(List (Int×Int))->(Int)->(Int)->(Bool)->(UInt8)->(List UInt8)->Option R):Option R:=
 (cond (decide (x19<(((yb x23):Nat):Int))) (cond (inb x19 (yb x23)) (cond (inb x19 (yb x32)) (cond (!(((nth (.pair (.int .u32) (.int .u32)) x23 (yc x19)).1==(nth (.pair (.int .u32) (.int .u32)) x32 (yc x19)).1)&&(((nth (.pair (.int .u32) (.int .u32)) x23 (yc x19)).2==(nth (.pair (.int .u32) (.int .u32)) x32 (yc x19)).2)&&true))) (o0 x20 x21 x22 x23 x24 x25 x26 x27 x28 x29 x30 x31 x32 x33 x34 x35 x36 x37) (rec_ (ya .i64 (x19+1)) x20 x21 x22 x23 x24 x25 x26 x27 x28 x29 x30 x31 x32 x33 x34 x35 x36 x37)) none) none) (o1 x20 x21 x22 x23 x24 x25 x26 x27 x28 x29 x30 x31 x32 x33 x34 x35 x36 x37))
def je(N:Nat):Nat->(Int)->(List UInt8)->(Int)->(List UInt8)->(List (Int×Int))->(Int)->(Int)->(Bool)->(UInt8)->(List UInt8)->(List UInt8)->(Int)->(List UInt8)->(List (Int×Int))->(Int)->(Int)->(Bool)->(UInt8)->(List UInt8)->Option (((List UInt8)×(Int)×(List UInt8)×(List (Int×Int))×(Int)×(Int)×(Bool)×(UInt8)×(List UInt8)×(List UInt8)×(Int)×(List UInt8)×(List (Int×Int))×(Int)×(Int)×(Bool)×(UInt8)×(List UInt8)) ⊕ ((List UInt8)×(Int)×(List UInt8)×(List (Int×Int))×(Int)×(Int)×(Bool)×(UInt8)×(List UInt8)×(List UInt8)×(Int)×(List UInt8)×(List (Int×Int))×(Int)×(Int)×(Bool)×(UInt8)×(List UInt8)))
 |0,_,_,_,_,_,_,_,_,_,_,_,_,_,_,_,_,_,_,_=>none
 |m+1,x19,x20,x21,x22,x23,x24,x25,x26,x27,x28,x29,x30,x31,x32,x33,x34,x35,x36,x37=>za6 N x19 x20 x21 x22 x23 x24 x25 x26 x27 x28 x29 x30 x31 x32 x33 x34 x35 x36 x37 (je N m) (fun v0 v1 v2 v3 v4 v5 v6 v7 v8 v9 v10 v11 v12 v13 v14 v15 v16 v17=>some (Sum.inl (v0,v1,v2,v3,v4,v5,v6,v7,v8,v9,v10,v11,v12,v13,v14,v15,v16,v17))) (fun v0 v1 v2 v3 v4 v5 v6 v7 v8 v9 v10 v11 v12 v13 v14 v15 v16 v17=>some (Sum.inr (v0,v1,v2,v3,v4,v5,v6,v7,v8,v9,v10,v11,v12,v13,v14,v15,v16,v17)))
def za4(N:Nat)(p0:(El uS2))(p1:(El uS2)):Option (Bool×Unit):=
 (cond ((((yb p0.2.2.2.1):Nat):Int) != (((yb p1.2.2.2.1):Nat):Int)) (some (false,())) (cond (p0.2.2.2.2.2.2.2.2 != p1.2.2.2.2.2.2.2.2) (some (false,())) (yd (je N N 0 p0.1 p0.2.1 p0.2.2.1 p0.2.2.2.1 p0.2.2.2.2.1 p0.2.2.2.2.2.1 p0.2.2.2.2.2.2.1 p0.2.2.2.2.2.2.2.1 p0.2.2.2.2.2.2.2.2 p1.1 p1.2.1 p1.2.2.1 p1.2.2.2.1 p1.2.2.2.2.1 p1.2.2.2.2.2.1 p1.2.2.2.2.2.2.1 p1.2.2.2.2.2.2.2.1 p1.2.2.2.2.2.2.2.2) fun o43=>(zi o43 (fun a44=>(some (false,()))) (fun b45=>(cond (b45.1==b45.2.2.2.2.2.2.2.2.2.1) (cond (b45.2.1==b45.2.2.2.2.2.2.2.2.2.2.1) (cond (b45.2.2.1==b45.2.2.2.2.2.2.2.2.2.2.2.1) (cond (b45.2.2.2.2.1==b45.2.2.2.2.2.2.2.2.2.2.2.2.2.1) (cond (b45.2.2.2.2.2.1==b45.2.2.2.2.2.2.2.2.2.2.2.2.2.2.1) (cond (b45.2.2.2.2.2.2.1==b45.2.2.2.2.2.2.2.2.2.2.2.2.2.2.2.1) (some ((b45.2.2.2.2.2.2.2.1==b45.2.2.2.2.2.2.2.2.2.2.2.2.2.2.2.2.1),())) (some (false,()))) (some (false,()))) (some (false,()))) (some (false,()))) (some (false,()))) (some (false,()))))))))
def zb3(N:Nat)(p0:(List UInt8))(p1:(List UInt8)):Option (Bool×Unit):=
 (some ((p0==p1),()))
@[reducible] def uK1:U:=(.pair (.int .i64) (.pair .str (.int .i64)))
@[reducible] def uK2:U:=(.pair .str (.pair (.int .i64) (.pair .str (.pair (.sl (.pair (.int .u32) (.int .u32))) (.pair (.int .i64) (.pair (.int .i64) (.pair .bool (.pair .u8 (.sl .u8)))))))))
@[reducible] def uK3:U:=(.pair (.sl .u8) (.pair (.int .i64) (.pair (.int .i64) (.int .i64))))
def qa(N:Nat)(p0:(El uK3)):Option ((El uK3)×Bool×Unit):=
 (cond (decide ((ya .i64 ((((yb p0.1):Nat):Int)-p0.2.1))<p0.2.2.1)) (some (p0,false,())) (some ((p0.1,((ya .i64 (p0.2.1+p0.2.2.1)),((0:Int),(ya .i64 (p0.2.1+p0.2.2.1))))),true,())))
def jl(N:Nat)(p0:(El uK3)):Option ((El uK3)×Int×Bool×Unit):=
 (cond (z8 p0.2.2.2 p0.1&&true) (cond ((yS (yb (ze p0.1 (yc p0.2.2.2))) zcZ)&&true) (cond (decide ((Go.Lib.index (ze p0.1 (yc p0.2.2.2)) ([(13:UInt8),(10:UInt8)]:List UInt8))<(0:Int))) (some ((p0.1,(p0.2.1,(p0.2.2.1,(if(ya .i64 ((((yb p0.1):Nat):Int)-(1:Int))) > p0.2.2.2 then(ya .i64 ((((yb p0.1):Nat):Int)-(1:Int))) else p0.2.2.2)))),(0:Int),false,())) (some (p0,(ya .i64 (p0.2.2.2+(Go.Lib.index (ze p0.1 (yc p0.2.2.2)) ([(13:UInt8),(10:UInt8)]:List UInt8)))),true,()))) none) none)
def kP(N:Nat)(p0:(List UInt8))(p1:(List UInt8)):Option (Bool×Unit):=
 (cond (decide ((((yb p1):Nat):Int)<=(((yb p0):Nat):Int))) (cond (z8 (ya .i64 ((((yb p0):Nat):Int)-(((yb p1):Nat):Int))) p0&&true) (yd (zb3 N (ze p0 (yc (ya .i64 ((((yb p0):Nat):Int)-(((yb p1):Nat):Int))))) p1) fun y1=>(some (y1.1,()))) none) (some (false,())))
def wh(N:Nat)(p0:(List UInt8))(p1:(List UInt8)):Option ((List UInt8)×Bool×Unit):=
 (yd (kP N p0 p1) fun y1=>(cond (!y1.1) (some (p0,false,())) (cond ((qZ (0:Int) (ya .i64 ((((yb p0):Nat):Int)-(((yb p1):Nat):Int))) (yb p0))&&true) (some ((slice p0 0 (yc (ya .i64 ((((yb p0):Nat):Int)-(((yb p1):Nat):Int))))),true,())) none)))
def qu(N:Nat){R:Type}(x1:List UInt8)(x2:UInt8)(x3:Int)(rec_:(List UInt8)->(UInt8)->(Int)->Option R)(o0:(Int)->Option R)(o1:Unit->Option R):Option R:=
 (cond (decide ((0:Int)<=x3)) (cond (inb x3 (yb x1)) (cond ((nth .u8 x1 (yc x3))==x2) (o0 x3) (rec_ x1 x2 (ya .i64 (x3-(1:Int))))) none) (o1 ()))
def zC(N:Nat):Nat->(List UInt8)->(UInt8)->(Int)->Option (((Int)) ⊕ (Unit))
 |0,_,_,_=>none
 |m+1,x1,x2,x3=>qu N x1 x2 x3 (zC N m) (fun v0=>some (Sum.inl v0)) (fun _=>some (Sum.inr ()))
def jE(N:Nat)(p0:(List UInt8))(p1:UInt8):Option (Int×Unit):=
 (yd (zC N N p0 p1 (ya .i64 ((((yb p0):Nat):Int)-(1:Int)))) fun o9=>(zi o9 (fun a10=>(some (a10,()))) (fun b11=>(some ((-1:Int),())))))
def ji(N:Nat)(p0:(List UInt8))(p1:UInt8):Option (Int×Unit):=
 (yd (jE N p0 p1) fun y1=>(some (y1.1,())))
def wk(N:Nat)(p0:(List UInt8)):Option (Int×Bool×Unit):=
 (yd (wh N p0 ([(125:UInt8)]:List UInt8)) fun y1=>(cond (!y1.2.1) (some ((0:Int),false,())) (yd (ji N y1.1 (123:UInt8)) fun y2=>(cond (decide (y2.1<(0:Int))) (some ((0:Int),false,())) (cond (z8 (ya .i64 (y2.1+(1:Int))) y1.1&&true) (yd (wi N (ze y1.1 (yc (ya .i64 (y2.1+(1:Int)))))) fun y3=>(some ((ya .i64 y3.1),y3.2.1,()))) none)))))
def zP(N:Nat)(p0:(El uK3))(p1:Int)(p2:(List UInt8))(p3:Int):Option ((El uK3)×(Int×(List UInt8))×Bool×Unit):=
 (yd (zO N p2) fun y1=>(cond (z8 p3 p0.1&&true) (yd (zO N (ze p0.1 (yc p3))) fun y2=>(some ((y2.1,((0:Int),((0:Int),(0:Int)))),(p1,y1.1),true,()))) none))
def zE(N:Nat)(p0:(El uK3)):Option ((El uK3)×(Int×(List UInt8))×Bool×Unit):=
 (yd (qa N p0) fun y1=>(cond (!y1.2.1) (some (y1.1,((0:Int),([]:List UInt8)),false,())) (yd (jl N y1.1) fun y2=>(cond (!y2.2.2.1) (some (y2.1,((0:Int),([]:List UInt8)),false,())) (cond ((qZ y2.1.2.1 y2.2.1 (yb y2.1.1))&&true) (yd (wk N (slice y2.1.1 (yc y2.1.2.1) (yc y2.2.1))) fun y3=>(cond (decide ((8192:Int)<(((yb (slice y2.1.1 (yc y2.1.2.1) (yc y2.2.1))):Nat):Int))) (cond ((qZ (0:Int) (8192:Int) (yb (slice y2.1.1 (yc y2.1.2.1) (yc y2.2.1))))&&true) (yd (zP N y2.1 (3:Int) (slice (slice y2.1.1 (yc y2.1.2.1) (yc y2.2.1)) 0 8192) (ya .i64 (y2.2.1+(2:Int)))) fun y4=>(some (y4.1,y4.2.1,y4.2.2.1,()))) none) (cond (!y3.2.1) (cond ((qZ (0:Int) y2.2.1 (yb y2.1.1))&&true) (yd (zP N y2.1 (1:Int) (slice y2.1.1 0 (yc y2.2.1)) (ya .i64 (y2.2.1+(2:Int)))) fun y5=>(some (y5.1,y5.2.1,y5.2.2.1,()))) none) (cond (decide ((65536:Int)<y3.1)) (cond ((qZ (0:Int) y2.2.1 (yb y2.1.1))&&true) (yd (zP N y2.1 (4:Int) (slice y2.1.1 0 (yc y2.2.1)) (ya .i64 (y2.2.1+(2:Int)))) fun y6=>(some (y6.1,y6.2.1,y6.2.2.1,()))) none) (some ((y2.1.1,((ya .i64 (y2.2.1+(2:Int))),(y3.1,y2.1.2.2.2))),((2:Int),([]:List UInt8)),true,())))))) none)))))
def jk(N:Nat)(p0:(El uK3)):Option ((El uK3)×Int×Unit):=
 (some (p0,(((yb p0.1):Nat):Int),()))
def zau(N:Nat){R:Type}(x12:List UInt8)(x13:Int)(x14:Int)(x15:Int)(x16:List (Int×(List UInt8)))(rec_:(List UInt8)->(Int)->(Int)->(Int)->(List (Int×(List UInt8)))->Option R)(o0:(List UInt8)->(Int)->(Int)->(Int)->(List (Int×(List UInt8)))->Option R):Option R:=
 (yd (zE N (x12,(x13,(x14,x15)))) fun y19=>(cond (!y19.2.2.1) (o0 y19.1.1 y19.1.2.1 y19.1.2.2.1 y19.1.2.2.2 x16) (cond (yq ((yb x16)+1) qc) (rec_ y19.1.1 y19.1.2.1 y19.1.2.2.1 y19.1.2.2.2 (x16++([y19.2.1]:List (Int×(List UInt8))))) none)))
def qG(N:Nat):Nat->(List UInt8)->(Int)->(Int)->(Int)->(List (Int×(List UInt8)))->Option ((List UInt8)×(Int)×(Int)×(Int)×(List (Int×(List UInt8))))
 |0,_,_,_,_,_=>none
 |m+1,x12,x13,x14,x15,x16=>zau N x12 x13 x14 x15 x16 (qG N m) (fun v0 v1 v2 v3 v4=>some (v0,v1,v2,v3,v4))
def xZ(N:Nat)(p0:(List UInt8)):Option ((List (Int×(List UInt8)))×Int×Unit):=
 (cond (yq (yb p0) qc) (yd (zE N (p0,((0:Int),((0:Int),(0:Int))))) fun y2=>(cond (!y2.2.2.1) (yd (jk N y2.1) fun y3=>(some (([]:List (Int×(List UInt8))),y3.2.1,()))) (yd (qG N N y2.1.1 y2.1.2.1 y2.1.2.2.1 y2.1.2.2.2 ([y2.2.1]:List (Int×(List UInt8)))) fun o20=>(yd (jk N (o20.1,(o20.2.1,(o20.2.2.1,o20.2.2.2.1)))) fun y21=>(some (o20.2.2.2.2,y21.2.1,())))))) none)
def zcu(N:Nat){R:Type}(x1:List UInt8)(x2:Int)(rec_:(List UInt8)->(Int)->Option R)(o0:(Int)->Option R)(o1:Unit->Option R):Option R:=
 (cond (decide ((ya .i64 (x2+(1:Int)))<(((yb x1):Nat):Int))) (cond (inb x2 (yb x1)) (cond ((nth .u8 x1 (yc x2))==(13:UInt8)) (cond (inb (ya .i64 (x2+(1:Int))) (yb x1)) (cond ((nth .u8 x1 (yc (ya .i64 (x2+(1:Int)))))==(10:UInt8)) (o0 x2) (rec_ x1 (ya .i64 (x2+(1:Int))))) none) (rec_ x1 (ya .i64 (x2+(1:Int))))) none) (o1 ()))
def jR(N:Nat):Nat->(List UInt8)->(Int)->Option (((Int)) ⊕ (Unit))
 |0,_,_=>none
 |m+1,x1,x2=>zcu N x1 x2 (jR N m) (fun v0=>some (Sum.inl v0)) (fun _=>some (Sum.inr ()))
def zb6(N:Nat)(p0:(List UInt8))(p1:Int):Option (Int×Unit):=
 (yd (jR N N p0 p1) fun o8=>(zi o8 (fun a9=>(some (a9,()))) (fun b10=>(some ((-1:Int),())))))
def kN(N:Nat){R:Type}(x1:List UInt8)(x2:Int)(x3:Int)(rec_:(List UInt8)->(Int)->(Int)->Option R)(o0:(List UInt8)->(Int)->(Int)->Option R):Option R:=
 (cond (decide ((0:Int)<x3)) (cond (inb (ya .i64 (x3-(1:Int))) (yb x1)) (cond (decide ((48:UInt8)<=(nth .u8 x1 (yc (ya .i64 (x3-(1:Int))))))) (cond (inb (ya .i64 (x3-(1:Int))) (yb x1)) (cond (decide ((nth .u8 x1 (yc (ya .i64 (x3-(1:Int)))))<=(57:UInt8))) (rec_ x1 x2 (ya .i64 (x3-(1:Int)))) (o0 x1 x2 x3)) none) (o0 x1 x2 x3)) none) (o0 x1 x2 x3))
def qg(N:Nat):Nat->(List UInt8)->(Int)->(Int)->Option ((List UInt8)×(Int)×(Int))
 |0,_,_,_=>none
 |m+1,x1,x2,x3=>kN N x1 x2 x3 (qg N m) (fun v0 v1 v2=>some (v0,v1,v2))
def wm(N:Nat)(p0:(List UInt8)):Option (Int×Bool×Unit):=
 (cond (decide ((ya .i64 ((((yb p0):Nat):Int)-(1:Int)))<(0:Int))) (some ((0:Int),false,())) (cond (inb (ya .i64 ((((yb p0):Nat):Int)-(1:Int))) (yb p0)) (cond ((nth .u8 p0 (yc (ya .i64 ((((yb p0):Nat):Int)-(1:Int))))) != (125:UInt8)) (some ((0:Int),false,())) (yd (qg N N p0 (ya .i64 ((((yb p0):Nat):Int)-(1:Int))) (ya .i64 ((((yb p0):Nat):Int)-(1:Int)))) fun o5=>(cond ((qZ o5.2.2 o5.2.1 (yb o5.1))&&true) (yd (jQ N (slice o5.1 (yc o5.2.2) (yc o5.2.1))) fun y6=>(cond (!y6.2.1) (some ((0:Int),false,())) (cond (o5.2.2==(0:Int)) (some ((0:Int),false,())) (cond (inb (ya .i64 (o5.2.2-(1:Int))) (yb o5.1)) (cond ((nth .u8 o5.1 (yc (ya .i64 (o5.2.2-(1:Int))))) != (123:UInt8)) (some ((0:Int),false,())) (some ((ya .i64 y6.1),true,()))) none)))) none))) none))
def xw(N:Nat){R:Type}(x12:List UInt8)(x13:Int)(x14:List (Int×(List UInt8)))(rec_:(List UInt8)->(Int)->(List (Int×(List UInt8)))->Option R)(o0:(Int)->(List (Int×(List UInt8)))->Option R)(o1:(List (Int×(List UInt8)))->Option R):Option R:=
 (cond (decide (x13<=(((yb x12):Nat):Int))) (yd (zb6 N x12 x13) fun y18=>(cond (decide (y18.1<(0:Int))) (o0 (-1:Int) x14) (cond ((qZ x13 y18.1 (yb x12))&&true) (cond (decide ((8192:Int)<(((yb (slice x12 (yc x13) (yc y18.1))):Nat):Int))) (cond ((qZ (0:Int) (8192:Int) (yb (slice x12 (yc x13) (yc y18.1))))&&true) (cond (yq (0+(yb (slice (slice x12 (yc x13) (yc y18.1)) 0 8192))) qc) (cond (yq ((yb x14)+1) qc) (o0 (ya .i64 (y18.1+(2:Int))) (x14++([((3:Int),(([]:List UInt8)++(slice (slice x12 (yc x13) (yc y18.1)) 0 8192)))]:List (Int×(List UInt8))))) none) none) none) (yd (wm N (slice x12 (yc x13) (yc y18.1))) fun y19=>(cond (!y19.2.1) (cond ((qZ (0:Int) y18.1 (yb x12))&&true) (cond (yq (0+(yb (slice x12 0 (yc y18.1)))) qc) (cond (yq ((yb x14)+1) qc) (o0 (ya .i64 (y18.1+(2:Int))) (x14++([((1:Int),(([]:List UInt8)++(slice x12 0 (yc y18.1))))]:List (Int×(List UInt8))))) none) none) none) (cond (decide ((65536:Int)<y19.1)) (cond ((qZ (0:Int) y18.1 (yb x12))&&true) (cond (yq (0+(yb (slice x12 0 (yc y18.1)))) qc) (cond (yq ((yb x14)+1) qc) (o0 (ya .i64 (y18.1+(2:Int))) (x14++([((4:Int),(([]:List UInt8)++(slice x12 0 (yc y18.1))))]:List (Int×(List UInt8))))) none) none) none) (cond (yq ((yb x14)+1) qc) (rec_ x12 (ya .i64 ((ya .i64 (y18.1+(2:Int)))+y19.1)) (x14++([((2:Int),([]:List UInt8))]:List (Int×(List UInt8))))) none))))) none))) (o1 x14))
def qj(N:Nat):Nat->(List UInt8)->(Int)->(List (Int×(List UInt8)))->Option (((Int)×(List (Int×(List UInt8)))) ⊕ ((List (Int×(List UInt8)))))
 |0,_,_,_=>none
 |m+1,x12,x13,x14=>xw N x12 x13 x14 (qj N m) (fun v0 v1=>some (Sum.inl (v0,v1))) (fun v0=>some (Sum.inr v0))
def kr(N:Nat)(p0:(List UInt8)):Option ((List (Int×(List UInt8)))×Int×Unit):=
 (yd (qj N N p0 (0:Int) ([]:List (Int×(List UInt8)))) fun o24=>(zi o24 (fun a25=>(some (a25.2,a25.1,()))) (fun b26=>(some (b26,(-1:Int),())))))
def zaC(N:Nat){R:Type}(x7:List UInt8)(x8:List (Int×(List UInt8)))(rec_:(List UInt8)->(List (Int×(List UInt8)))->Option R)(o0:(Int)->(List (Int×(List UInt8)))->Option R):Option R:=
 (yd (kr N x7) fun y11=>(cond (yq ((yb x8)+(yb y11.1)) qc) (cond (decide (y11.2.1<(0:Int))) (o0 (((yb x7):Nat):Int) (x8++y11.1)) (cond (z8 y11.2.1 x7&&true) (rec_ (ze x7 (yc y11.2.1)) (x8++y11.1)) none)) none))
def qI(N:Nat):Nat->(List UInt8)->(List (Int×(List UInt8)))->Option ((Int)×(List (Int×(List UInt8))))
 |0,_,_=>none
 |m+1,x7,x8=>zaC N x7 x8 (qI N m) (fun v0 v1=>some (v0,v1))
def zaa(N:Nat)(p0:(List UInt8)):Option ((List (Int×(List UInt8)))×Int×Unit):=
 (yd (qI N N p0 ([]:List (Int×(List UInt8)))) fun o12=>(some (o12.2,o12.1,())))
def zat(N:Nat){R:Type}(x13:List (Int×(List UInt8)))(x14:Int)(x15:Int)(x16:List (El uK2))(rec_:(List (Int×(List UInt8)))->(Int)->(Int)->(List (El uK2))->Option R)(o0:(List (El uK2))->Option R)(o1:(List (El uK2))->Option R):Option R:=
 (cond (decide (x15<x14)) (cond (inb x15 (yb x13)) (cond ((nth (.pair (.int .i64) (.sl .u8)) x13 (yc x15)).1==(2:Int)) (rec_ x13 x14 (ya .i64 (x15+(1:Int))) x16) (yd (kk N (nth (.pair (.int .i64) (.sl .u8)) x13 (yc x15)).2) fun y19=>(cond (!y19.2.1) (o0 x16) (cond ((nth (.pair (.int .i64) (.sl .u8)) x13 (yc x15)).1 != (1:Int)) (o0 x16) (cond (yq ((yb x16)+1) qc) (rec_ x13 x14 (ya .i64 (x15+(1:Int))) (x16++([y19.1]:List (El uK2)))) none))))) none) (o1 x16))
def qF(N:Nat):Nat->(List (Int×(List UInt8)))->(Int)->(Int)->(List (El uK2))->Option (((List (El uK2))) ⊕ ((List (El uK2))))
 |0,_,_,_,_=>none
 |m+1,x13,x14,x15,x16=>zat N x13 x14 x15 x16 (qF N m) (fun v0=>some (Sum.inl v0)) (fun v0=>some (Sum.inr v0))
def xY(N:Nat)(p0:(List UInt8)):Option ((List (El uK2))×Bool×Unit):=
 (yd (xZ N p0) fun y1=>(cond (decide ((0:Int)<y1.2.1)) (some (([]:List (El uK2)),false,())) (yd (qF N N y1.1 (((yb y1.1):Nat):Int) (0:Int) ([]:List (El uK2))) fun o24=>(zi o24 (fun a25=>(some (([]:List (El uK2)),false,()))) (fun b26=>(some (b26,true,())))))))
def zbe(N:Nat){R:Type}(x13:List (Int×(List UInt8)))(x14:Int)(x15:Int)(x16:List (El uK2))(rec_:(List (Int×(List UInt8)))->(Int)->(Int)->(List (El uK2))->Option R)(o0:(List (El uK2))->Option R)(o1:(Int)->(List (El uK2))->Option R):Option R:=
 (cond (decide (x15<(((yb x13):Nat):Int))) (cond (inb x15 (yb x13)) (cond ((nth (.pair (.int .i64) (.sl .u8)) x13 (yc x15)).1==(2:Int)) (rec_ x13 x14 (ya .i64 (x15+(1:Int))) x16) (cond (inb x15 (yb x13)) (yd (zab N (nth (.pair (.int .i64) (.sl .u8)) x13 (yc x15)).2) fun y19=>(cond (inb x15 (yb x13)) (cond ((nth (.pair (.int .i64) (.sl .u8)) x13 (yc x15)).1 != (1:Int)) (o0 x16) (cond (!y19.2.1) (o0 x16) (cond (yq ((yb x16)+1) qc) (rec_ x13 x14 (ya .i64 (x15+(1:Int))) (x16++([y19.1]:List (El uK2)))) none))) none)) none)) none) (o1 x14 x16))
def jh(N:Nat):Nat->(List (Int×(List UInt8)))->(Int)->(Int)->(List (El uK2))->Option (((List (El uK2))) ⊕ ((Int)×(List (El uK2))))
 |0,_,_,_,_=>none
 |m+1,x13,x14,x15,x16=>zbe N x13 x14 x15 x16 (jh N m) (fun v0=>some (Sum.inl v0)) (fun v0 v1=>some (Sum.inr (v0,v1)))
def zbc(N:Nat)(p0:(List UInt8)):Option ((List (El uK2))×Bool×Unit):=
 (yd (zaa N p0) fun y1=>(yd (jh N N y1.1 y1.2.1 (0:Int) ([]:List (El uK2))) fun o24=>(zi o24 (fun a25=>(some (([]:List (El uK2)),false,()))) (fun b26=>(some (b26.2,(b26.1==(0:Int)),()))))))
def zbE(N:Nat){R:Type}(x4:List (El uK2))(x5:List (El uK2))(x6:Int)(rec_:(List (El uK2))->(List (El uK2))->(Int)->Option R)(o0:Unit->Option R)(o1:Unit->Option R):Option R:=
 (cond (decide (x6<(((yb x4):Nat):Int))) (cond (inb x6 (yb x4)) (cond (inb x6 (yb x5)) (yd (za4 N (nth uK2 x4 (yc x6)) (nth uK2 x5 (yc x6))) fun y9=>(cond (!y9.1) (o0 ()) (rec_ x4 x5 (ya .i64 (x6+(1:Int)))))) none) none) (o1 ()))
def jv(N:Nat):Nat->(List (El uK2))->(List (El uK2))->(Int)->Option ((Unit) ⊕ (Unit))
 |0,_,_,_=>none
 |m+1,x4,x5,x6=>zbE N x4 x5 x6 (jv N m) (fun _=>some (Sum.inl ())) (fun _=>some (Sum.inr ()))
def kh(N:Nat)(p0:(List (El uK2)))(p1:(List (El uK2))):Option (Bool×Unit):=
 (cond ((((yb p0):Nat):Int) != (((yb p1):Nat):Int)) (some (false,())) (yd (jv N N p0 p1 (0:Int)) fun o14=>(zi o14 (fun a15=>(some (false,()))) (fun b16=>(some (true,()))))))
def qL(N:Nat)(p0:(List UInt8)):Option (Bool×Unit):=
 (cond (decide ((3000:Int)<(((yb p0):Nat):Int))) (yd (some (true,())) fun y1=>(some (y1.1,()))) (yd (xY N p0) fun y2=>(yd (zbc N p0) fun y3=>(cond (!y3.2.1) (yd (some (true,())) fun y4=>(cond y4.1 (cond (y2.2.1==y3.2.1) (yd (kh N y2.1 ([]:List (El uK2))) fun y5=>(some (y5.1,()))) (some (false,()))) (some (false,())))) (yd (some (true,())) fun y6=>(cond y6.1 (cond (y2.2.1==y3.2.1) (yd (kh N y2.1 y3.1) fun y7=>(some (y7.1,()))) (some (false,()))) (some (false,()))))))))
end Go.Proofs.Model
namespace Go.Sx
open Go Go.Gx Go.Mx
variable [j3]
def zxk(u:U)(rs:List U):SC->Option (El u×El (zbp rs))
 |.ret v h=>match unS rs v with
  |some vs=>match wy rs vs h with
   |some (y,h1)=>match(h1[0]?:Option SB) with
    |some (.cells cs 0 _)=>match dec u cs h1 with
     |some (x,[],h2)=>match(h2[0]?:Option SB) with
      |some (.cells _ 0 _)=>some (x,y)
      |_=>none
     |_=>none
    |_=>none
   |none=>none
  |none=>none
 |.pan _ _=>none
def zsJ(u:U)(us rs:List U)(F:El u->El (zbp us)->Option (El u×El (zbp rs))):CF:=fun R args h κ=>match args with
 |.ptr loc 0 lim::args=>match Nat.beq lim u.sz,wy us args h with
  |true,some (y,h1)=>match h1[loc]? with
   |some (.cells cs 0 _)=>match dec u cs h1 with
    |some (x,[],h2)=>match h2[loc]? with
     |some (.cells _ 0 _)=>(F x y).bind fun p=>κ (.ret (zpH (jD rs p.2)) (h2.set loc (.cells (enc u p.1) 0)))
     |_=>none
    |_=>none
   |_=>none
  |_,_=>none
 |_=>none
section
variable {P:Program} {gl:GL} {ct:CT} {hk:jA}
theorem zuP{rs:List U}{v:SV}{vs:List SV}{Z:Gst}{xv:AV}(hvs:unS rs v=some vs)(hv:RV Z v xv)(y:El (zbp rs)):
  ∃ xs,RVs Z vs xs/\∀ W,(RVs W (jD rs y) xs->RV W (zpH (jD rs y)) xv):=by
 unfold unS at hvs
 split at hvs
 ·cases hvs
  exact⟨[xv],.one hv,fun W ⟨a,t,e,q,ht⟩=>by cases e;exact q⟩
 ·rename_i hrs
  split at hvs
  ·cases hvs
   obtain⟨l',rfl,q⟩:=hv
   refine⟨l',q,fun W hW=>?_⟩
   have:zpH (jD rs y)=.tup (jD rs y):=by
    match rs,y,hrs with
    | [],_,_=>rfl
    | [u],_,hrs=>exact absurd rfl (hrs u)
    |_::_::_,_,_=>rfl
   rw[this];exact⟨l',rfl,hW⟩
  ·cases hvs
theorem zgt{X:Gst}(hr:RH X){loc md:Nat}{cs:List SV}{mk:Option TypeId}(h:X.sh[loc]?=some (.cells cs md mk)):∃ m l tt,X.σ[loc]?=some (some (m,0))/\X.h[m]?=some (.row l 0 0 0 false tt)/\RVs X cs l:=by
 have hl:loc<X.σ.length:=by rw[hr.len];exact(yG.1 h).1
 obtain⟨m,l,tt,e,h1,h2⟩:=hr.blk loc _ _ h (yg hl)
 exact⟨m,l,mk.or tt,by rw[yg hl,e],h1,h2⟩
theorem zlp{f:FuncId}{u:U}{us rs:List U}{F:El u->El (zbp us)->Option (El u×El (zbp rs))}{run:CF}(hrun:zhC P gl hk f run)
  (hF:∀ x y,run _ (.ptr 0 0 u.sz::jD us y) [.cells (enc u x) 0] (zxk u rs)=F x y):zhC P gl hk f (zsJ u us rs F):=by
 intro R args κ r X margs h hargs hr hg
 unfold zsJ at h
 split at h
 ·rename_i loc lim args'
  obtain⟨x0,xs,rfl,⟨m,⟨v0,hat⟩,rfl⟩,hargs⟩:=hargs
  split at h
  ·rename_i y h1 hlim hd1
   have hlim:=Nat.eq_of_beq_eq_true hlim
   subst hlim
   split at h
   ·rename_i cs hcs
    split at h
    ·rename_i x h2 hd2
     split at h
     ·rename_i cs2 hcs2
      obtain⟨Y1,S1,hh1,hs1,hA1⟩:=kC us hr hargs hd1
      rw[<- hs1] at hcs hd2
      obtain⟨m1,l1,tt1,e1,g1,q1⟩:=zgt S1.hr hcs
      obtain⟨v1,e1'⟩:=S1.le.at_ loc m v0 hat
      rw[e1] at e1';cases e1'
      obtain⟨Y2,c1,c2,S2,hh2,hs2,ec,hRE,hc2⟩:=zaL u S1.hr q1 hd2
      cases(show c2=[] from hc2)
      rw[yQ] at ec
      subst ec
      rw[<- hs2] at hcs2 h
      obtain⟨v2,e2'⟩:=S2.le.at_ loc m 0 e1
      obtain⟨m2,l2,tt2,e2,g2,q2⟩:=zgt S2.hr hcs2
      rw[e2] at e2';cases e2'
      rw[hh2] at g2
      rw[g1] at g2;cases g2
      have hnΦ:¬ Y2.Φ m:=fun hΦ=>(S2.hr.own loc m 0 _ hcs2 e2 hΦ).elim (fun e=>by cases e) (fun e=>by cases e)
      have hrow:Y2.h[m]?=some (.row l1 0 0 0 false tt1):=by rw[hh2];exact g1
      have hbσ:∀ (i m' v':Nat),([some (m,0)]:List (Option (Nat×Nat)))[i]?=some (some (m',v'))->i=0/\m'=m/\v'=0:=by
       intro i m' v' hi
       cases i with
       |zero=>simp at hi;exact⟨rfl,hi.1.symm,hi.2.symm⟩
       |succ i=>simp at hi
      have hbs:∀ (i:Nat) (b:SB),([.cells (enc u x) 0]:SH)[i]?=some b->i=0/\b=.cells (enc u x) 0:=by
       intro i b hi
       cases i with
       |zero=>simp at hi;exact⟨rfl,hi.symm⟩
       |succ i=>simp at hi
      have hB:RH (⟨Y2.h,Y2.Φ,[some (m,0)],[.cells (enc u x) 0]⟩:Gst):=by
       refine⟨rfl,fun i j m' v v' h1 h2=>by rw[(hbσ i m' v h1).1,(hbσ j m' v' h2).1],fun i m' v h1=>?_,S2.hr.Φlt,fun i b o h1 h2=>?_,fun i m' v b h1 h2 h3=>?_⟩
       ·rw[(hbσ i m' v h1).2.1];exact S2.hr.lt loc m 0 e2
       ·obtain⟨rfl,rfl⟩:=hbs i b h1
        have h2:o=some (m,0):=by simpa using h2.symm
        subst h2
        exact⟨m,l1,tt1,rfl,hrow,kE hRE⟩
       ·rw[(hbσ i m' v h2).2.1] at h3;exact absurd h3 hnΦ
      have hgB:RGl P gl (⟨Y2.h,Y2.Φ,[some (m,0)],[.cells (enc u x) 0]⟩:Gst):=fun g cs hg'=>((hg.le S1.le).le S2.le) g cs hg'
      have hargsB:RVs (⟨Y2.h,Y2.Φ,[some (m,0)],[.cells (enc u x) 0]⟩:Gst) (.ptr 0 0 u.sz::jD us y) (.ptr m 0 0 u.sz::xs):=
       ⟨_,_,rfl,⟨m,⟨0,rfl⟩,rfl⟩,hA1 _ hh2 fun m' hm=>S2.le.Φ m' hm⟩
      cases hFx:F x y with
      |none=>rw[hFx] at h;cases h
      |some p=>
       rw[hFx] at h
       rw[<- hF x y] at hFx
       obtain⟨q,Z,mq,k1,S3,hcr,ev⟩:=hrun _ _ _ _ _ _ hFx hargsB hB hgB
       cases q with
       |pan v sh=>cases k1
       |ret v sh=>
        cases mq with
        |pan=>cases hcr
        |ret xv hv'=>
         obtain⟨z1,z2,hv⟩:=hcr
         simp only[zxk] at k1
         split at k1
         ·rename_i vs hvs
          split at k1
          ·rename_i y' h3 hd3
           split at k1
           ·rename_i cs3 hcs3
            split at k1
            ·rename_i x' h4 hd4
             split at k1
             ·rename_i cs4 hcs4
              cases k1
              rw[<- z1] at hd3
              obtain⟨ys,hys,hone⟩:=zuP hvs hv y'
              obtain⟨Z1,S4,hh3,hs3,hA3⟩:=kC rs S3.hr hys hd3
              rw[<- hs3] at hcs3 hd4
              obtain⟨m3,l3,tt3,e3,g3,q3⟩:=zgt S4.hr hcs3
              obtain⟨v3,e3'⟩:=S4.le.at_ 0 m _ (S3.le.at_ 0 m 0 rfl).choose_spec
              rw[e3] at e3';cases e3'
              obtain⟨Z2,d1,d2,S5,hh4,hs4,ed,hRE2,hd2'⟩:=zaL u S4.hr q3 hd4
              cases(show d2=[] from hd2')
              rw[yQ] at ed
              subst ed
              rw[<- hs4] at hcs4
              obtain⟨m4,l4,tt4,e4,g4,q4⟩:=zgt S5.hr hcs4
              obtain⟨v4,e4'⟩:=S5.le.at_ 0 m 0 e3
              rw[e4] at e4';cases e4'
              rw[hh4,g3] at g4;cases g4
              have hnΦ2:¬ Z2.Φ m:=fun hΦ=>(S5.hr.own 0 m 0 _ hcs4 e4 hΦ).elim (fun e=>by cases e) (fun e=>by cases e)
              have hrow2:Z2.h[m]?=some (.row l3 0 0 0 false tt3):=by rw[hh4];exact g3
              have S6:=(S3.trans S4).trans S5
              have hsame:∀ m',m'<Y2.h.length->m'≠m->Z2.h[m']?=Y2.h[m']?:=fun m' hm hne=>S6.fm.h m' hm fun i v b hb hσ=>absurd (hbσ i m' v hσ).2.1 hne
              have hphi:∀ m',m'<Y2.h.length->Z2.Φ m'->Y2.Φ m':=fun m' hm hΦ=>(S6.fm.phi m' hm hΦ).elim id fun⟨i,v,b,hb,hσ,_⟩=>by
               rw[(hbσ i m' v hσ).2.1] at hΦ;exact absurd hΦ hnΦ2
              have hloc:loc<Y2.sh.length:=(yG.1 hcs2).1
              have hle:Y2.le ⟨Z2.h,Z2.Φ,Y2.σ,Y2.sh.set loc (.cells (enc u x') 0)⟩:=by
               refine⟨fun m' hm=>hsame m' (S2.hr.Φlt m' hm) fun e=>hnΦ (e ▸ hm),S6.le.Φ,yB _,fun _ _ v h=>⟨v,h⟩,fun i w l k md hi hs=>?_,S2.hr.len⟩
               rcases zQ hs with⟨_,e⟩|⟨_,hs⟩
               ·cases e
               ·exact⟨l,k,md,hs,yB _,fun _=>⟨rfl,rfl⟩⟩
              have hW:RVs (⟨Z2.h,Z2.Φ,Y2.σ,Y2.sh.set loc (.cells (enc u x') 0)⟩:Gst) (enc u x') l3:=kE hRE2
              have S7:Stp Y2 ⟨Z2.h,Z2.Φ,Y2.σ,Y2.sh.set loc (.cells (enc u x') 0)⟩:=by
               refine⟨hle,⟨by rw[List.length_set];exact S2.hr.len,S2.hr.inj,fun i m' v h=>vj (S2.hr.lt i m' v h) S6.fm.len,S5.hr.Φlt,fun i b o hb ho=>?_,fun i m' v b hb ho hΦ=>?_⟩,
                ⟨S6.fm.len,fun m' hm hx=>hsame m' hm fun e=>?_,fun i b hb hm=>?_,fun i m' v h _=>⟨v,h⟩,fun i hgn=>?_,fun m' hm hΦ=>.inl (hphi m' hm hΦ)⟩⟩
               ·rcases zQ hb with⟨rfl,rfl⟩|⟨hne,hb⟩
                ·rw[e2] at ho;cases ho
                 exact⟨m,l3,tt3,rfl,hrow2,hW⟩
                ·refine(S2.hr.blk i b o hb ho).le hle fun m' v e=>hsame m' (S2.hr.lt i m' v (e ▸ ho)) fun em=>?_
                 subst e;subst em
                 exact hne (S2.hr.inj i loc _ _ _ ho e2)
               ·rcases zQ hb with⟨rfl,rfl⟩|⟨hne,hb⟩
                ·rw[e2] at ho;cases ho
                 exact absurd hΦ hnΦ2
                ·exact S2.hr.own i m' v b hb ho (hphi m' (S2.hr.lt i m' v ho) hΦ)
               ·subst e
                exact absurd rfl (hx loc 0 _ hcs2 e2)
               ·have hne:i≠loc:=fun e=>by subst e;rw[hcs2] at hb;cases hb;exact hm rfl
                exact⟨b,by rw[vg (Ne.symm hne)];exact hb,hm⟩
               ·have hne:i≠loc:=fun e=>by subst e;rw[hcs2] at hgn;cases hgn
                exact⟨by rw[vg (Ne.symm hne)];exact hgn,rfl⟩
              refine⟨_,_,.ret xv hv',h,(S1.trans S2).trans S7,⟨rfl,?_,hone _ (hA3 _ (by rw[<- hh4]) fun m' hm=>S5.le.Φ m' hm)⟩,?_⟩
              ·show Z2.h=hv';rw[hh4,hh3,z2]
              ·rw[<- hh1,<- hh2];exact ev
             ·cases k1
            ·cases k1
           ·cases k1
          ·cases k1
         ·cases k1
     ·cases h
    ·cases h
   ·cases h
  ·cases h
 ·cases h
theorem fnP{T:FT}{al:List FuncId}(hh:zol P hk al)(hT:zjL P gl hk T){f:FuncId}{u:U}{us rs:List U}{F:El u->El (zbp us)->Option (El u×El (zbp rs))}(pl:Pl){fn:Func}(hf:P.funcs[f]?=some fn){ls:List (Code×LF)}(hs:zcq P gl hk ls)
  (ha:(al.all fun f=>znw T f)=true:=by rfl) (n:Nat:=1500) (h:(match fn.body with|some b=>z6 P pl b|none=>none)=some ls:=by kernel_rfl)
  (hF:∀ x y,xJ P gl (zgA T) n pl f (.ptr 0 0 u.sz::jD us y) [.cells (enc u x) 0] (zxk u rs)=F x y:=by intro x y;kernel_rfl):zjL P gl hk ((f,zsJ u us rs F)::T):=
 ⟨zlp (run:=fun R args h κ=>xJ P gl (zgA T) (R:=R) n pl f args h κ) ((zcn (ztH hh ha hT) n).2.2.1 pl f (zhd hf h hs)) hF,hT⟩
end
end Go.Sx
namespace Go.Sx
open Go Go.Gx Go.Mx
theorem wri{x:Int}(h:-9223372036854775808<=x)(h':x<=9223372036854775807):ya .i64 x=x:=by
 simp [ya,yj,IntKind.signed];omega
theorem zZ{i n:Nat}(h:i<n):inb (i:Int) n=true:=by
 unfold inb;simp;omega
theorem qn{a b n:Nat}(h:a<=b)(h':b<=n):qZ (a:Int) (b:Int) n=true:=by
 unfold qZ;simp;omega
theorem jr{u:U}{l:List (El u)}{i:Nat}(h:i<l.length):nth u l i=l[i]:=by
 unfold nth;rw[List.getD_eq_getElem?_getD,yg h];rfl
theorem drop_one{α:Type}{l:List α}{i:Nat}(h:i<l.length):l.drop i=l[i]::l.drop (i+1):=List.drop_eq_getElem_cons h
theorem zhN{i n:Nat}(h:i<n):decide ((i:Int)<(n:Int))=true:=by simp;omega
theorem zhM{i n:Nat}(h:¬ i<n):decide ((i:Int)<(n:Int))=false:=by simp;omega
theorem ql{α:Type}{l:List α}{n:Nat}:slice l 0 n=l.take n:=by unfold slice;simp
theorem zap{α:Type}{l:List α}{a:Nat}:slice l a l.length=l.drop a:=by
 unfold slice;rw[List.take_of_length_le];rw[yk];exact yB _
section
variable {u v:U} (hS:∀ a b:El u,zn0 u a b=true↔a=b)
include hS
end
end Go.Sx
namespace Go.Proofs.Model
open Go Go.Gx Go.Mx Go.Sx
theorem zfH{p:UInt8->Bool}(h:((yR 256).all fun n=>p (yh n))=true)(c:UInt8):p c=true:=by
 rw[yM] at h
 have:=h c.toNat (yO.2 c.toNat_lt)
 rwa [UInt8.ofNat_toNat] at this
def bOf(o:Option (Bool×Unit)):Bool:=match o with
 |some (b,_)=>b
 |none=>false
def zhb(c:UInt8):Bool:=bOf (wY 0 c)
def wH(c:UInt8):Bool:=bOf (zax 0 c)
def zeT(c:UInt8):Bool:=bOf (j5 0 c)
def j1(c:UInt8):Bool:=bOf (jL 0 c)
def isB(o:Option (Bool×Unit))(b:Bool):Bool:=match o with
 |some (x,_)=>x==b
 |none=>false
theorem zfO{o:Option (Bool×Unit)}{b:Bool}(h:isB o b=true):o=some (b,()):=by
 unfold isB at h
 split at h
 ·rename_i x u;rw[beq_iff_eq] at h;subst h;rfl
 ·cases h
theorem zw0(N:Nat)(c:UInt8):wY N c=some (zhb c,()):=zfO (zfH (p:=fun c=>isB (wY 0 c) (zhb c)) (by kernel_rfl) c)
theorem zAf(N:Nat)(c:UInt8):zdc N c=some (wH c,()):=zfO (zfH (p:=fun c=>isB (zdc 0 c) (wH c)) (by kernel_rfl) c)
theorem zAg(N:Nat)(c:UInt8):zax N c=some (wH c,()):=zfO (zfH (p:=fun c=>isB (zax 0 c) (wH c)) (by kernel_rfl) c)
theorem zwD(N:Nat)(c:UInt8):kQ N c=some (zeT c,()):=zfO (zfH (p:=fun c=>isB (kQ 0 c) (zeT c)) (by kernel_rfl) c)
theorem zwE(N:Nat)(c:UInt8):j5 N c=some (zeT c,()):=zfO (zfH (p:=fun c=>isB (j5 0 c) (zeT c)) (by kernel_rfl) c)
theorem zxr(N:Nat)(c:UInt8):k9 N c=some (j1 c,()):=zfO (zfH (p:=fun c=>isB (k9 0 c) (j1 c)) (by kernel_rfl) c)
theorem zxs(N:Nat)(c:UInt8):jL N c=some (j1 c,()):=zfO (zfH (p:=fun c=>isB (jL 0 c) (j1 c)) (by kernel_rfl) c)
theorem zzF(N:Nat)(c:UInt8):zb4 N c=some (zhb c,()):=zfO (zfH (p:=fun c=>isB (zb4 0 c) (zhb c)) (by kernel_rfl) c)
def run(p:UInt8->Bool):List UInt8->Nat
 | []=>0
 |c::l=>if p c then run p l+1 else 0
theorem zis(p:UInt8->Bool):∀ l:List UInt8,run p l<=l.length
 | []=>yB _
 |c::l=>by
  unfold run
  split
  ·have:=zis p l;simp;omega
  ·simp
theorem zjG(p:UInt8->Bool):∀ b:List UInt8,(b.take (run p b)).all p=true
 | []=>rfl
 |c::l=>by
  unfold run
  cases h:p c with
  |true=>simpa [h] using zjG p l
  |false=>simp
theorem zex{p:UInt8->Bool}{c:UInt8}(hp:p c=false):∀ (l:List UInt8) (k:Nat),run p l<l.length->l[run p l]?=some c->jI c l k=((k+run p l:Nat):Int)
 | [],k,h,_=>by simp [run] at h
 |x::l,k,h,hc=>by
  unfold run at h hc |-
  cases hx:p x with
  |true=>
   simp only[hx,if_true] at h hc |-
   have hne:(x==c)=false:=by
    cases e:x==c with
    |false=>rfl
    |true=>rw[beq_iff_eq] at e;subst e;rw[hp] at hx;cases hx
   have:=zex hp l (k+1) (by simpa using h) (by simpa using hc)
   simp only[jI,hne,yC,if_false,this]
   congr 1;omega
  |false=>
   simp only[hx,yC,if_false] at h hc |-
   simp only[List.getElem?_cons_zero,Option.some.injEq] at hc
   subst hc
   simp [jI]
theorem zka{p:UInt8->Bool}{c:UInt8}(hp:p c=false):∀ (l:List UInt8) (k:Nat),jI c l k=-1\/∃ i,jI c l k=((k+i:Nat):Int)/\i<l.length/\l[i]?=some c/\((l.take i).all p=true->run p l=i)
 | [],k=>.inl rfl
 |x::l,k=>by
  simp only[jI]
  cases e:x==c with
  |true=>
   rw[beq_iff_eq] at e;subst e
   exact .inr ⟨0,by simp,by simp,rfl,fun _=>by simp [run,hp]⟩
  |false=>
   simp only[yC,if_false]
   rcases zka hp l (k+1) with h|⟨i,h1,h2,h3,h4⟩
   ·exact .inl h
   ·refine .inr ⟨i+1,by rw[h1];congr 1;omega,by simpa using h2,by simpa using h3,fun h=>?_⟩
    simp only[yz,List.all_cons,vk] at h
    simp [run,h.1,h4 h.2]
theorem zyZ(N:Nat)(s:List UInt8)(hs:s.length<=100000):∀ (m i:Nat),i<=s.length->s.length<m+i ->
  jw N m s (s.length:Int) (i:Int)=some (if(s.drop i).all wH=true then Sum.inr () else Sum.inl ())
 |0,i,h,h'=>by omega
 |m+1,i,h,h'=>by
  unfold jw zbG
  by_cases hi:i<s.length
  ·simp only[zhN hi,cond_true,zZ hi,yf,jr (u:=.u8) hi,zAf,ye,drop_one hi,List.all_cons]
   cases hc:wH s[i] with
   |true=>
    simp only[yn,cond_false,yY]
    rw[wri (by omega) (by omega),show((i:Int)+1)=((i+1:Nat):Int) by omega]
    exact zyZ N s hs m (i+1) (by omega) (by omega)
   |false=>simp
  ·simp only[zhM hi,cond_false]
   rw[yy (by omega)]
   simp
theorem zv0(N:Nat)(s:List UInt8)(hs:s.length<=100000):∀ (m i:Nat),i<=s.length->s.length<m+i ->
  jS N m s (i:Int)=some (s,((i+run wH (s.drop i):Nat):Int))
 |0,i,h,h'=>by omega
 |m+1,i,h,h'=>by
  unfold jS zcw
  by_cases hi:i<s.length
  ·simp only[zhN hi,cond_true,zZ hi,yf,jr (u:=.u8) hi,zAg,ye,drop_one hi,run]
   cases hc:wH s[i] with
   |true=>
    simp only[cond_true,if_true]
    rw[wri (by omega) (by omega),show((i:Int)+1)=((i+1:Nat):Int) by omega,zv0 N s hs m (i+1) (by omega) (by omega)]
    congr 3;omega
   |false=>simp
  ·simp only[zhM hi,cond_false]
   rw[yy (by omega)]
   simp [run]
def zu2(b:List UInt8):Option ((List UInt8)×Int×Bool×Unit):=some (if 0<run wH b/\b[run wH b]?=some 32 then(b.take (run wH b),((run wH b+1:Nat):Int),true,()) else([],0,false,()))
theorem zuN(N:Nat)(b:List UInt8)(hb:b.length<=100000)(hN:b.length<N):zb7 N b=zu2 b:=by
 unfold zb7 zu2
 have h0:=zv0 N b hb N 0 (by omega) (by omega)
 simp only[yD,yU] at h0
 rw[show((0:Nat):Int)=(0:Int) from rfl] at h0
 rw[h0]
 have hle:=zis wH b
 generalize run wH b=i at hle |-
 simp only[ye]
 by_cases h1:i=0
 ·subst h1;simp
 ·have e1:(((i:Nat):Int)==(0:Int))=false:=by simp;omega
  simp only[e1,cond_false]
  by_cases h2:i=b.length
  ·subst h2;simp
  ·have hi:i<b.length:=by omega
   have e2:(((i:Nat):Int)==((b.length:Nat):Int))=false:=by simp;omega
   simp only[e2,cond_false,zZ hi,cond_true,yf,jr (u:=.u8) hi]
   have e3:b[i]?=some b[i]:=yg hi
   cases hc:b[i] != (32:UInt8) with
   |true=>
    have:¬ b[i]=32:=by simpa using hc
    simp only[cond_true,e3,Option.some.injEq,this,and_false,if_false]
   |false=>
    have:b[i]=32:=by simpa using hc
    have e4:=qn (a:=0) (b:=i) (n:=b.length) (by omega) (by omega)
    rw[show((0:Nat):Int)=(0:Int) from rfl] at e4
    simp only[cond_false,e4,yY,cond_true,ql,e3,this]
    rw[wri (by omega) (by omega),if_pos ⟨by omega,trivial⟩]
    congr 2
theorem zgy:wH 32=false:=by kernel_rfl
theorem zsq(N:Nat)(b:List UInt8)(hb:b.length<=100000)(hN:b.length<N):zb8 N b=zu2 b:=by
 unfold zb8 zu2 js
 simp only[ye]
 rcases zka zgy b 0 with h|⟨i,h1,h2,h3,h4⟩
 ·rw[h]
  simp only[show decide ((-1:Int)<1)=true from rfl,cond_true]
  rw[if_neg]
  intro⟨h1,h2⟩
  have hlt:=(yG.1 h2).1
  rw[zex zgy b 0 hlt h2] at h
  omega
 ·rw[h1,yU]
  by_cases hi:i=0
  ·subst hi
   simp only[show decide (((0:Nat):Int)<1)=true from rfl,cond_true]
   rw[if_neg]
   intro⟨h5,h6⟩
   have hlt:=(yG.1 h6).1
   have:=zex zgy b 0 hlt h6
   rw[h1] at this;omega
  ·have e1:decide (((i:Nat):Int)<1)=false:=by simp;omega
   have e4:=qn (a:=0) (b:=i) (n:=b.length) (by omega) (by omega)
   rw[show((0:Nat):Int)=(0:Int) from rfl] at e4
   simp only[e1,cond_false,e4,yY,cond_true,yf,ql]
   have hl:(b.take i).length=i:=by rw[yH];omega
   have e5:((b.take i) != ([]:List UInt8))=true:=by
    simp only[bne_iff_ne,ne_eq]
    intro e;rw[e] at hl;simp at hl;omega
   simp only[e5,cond_true]
   have:=zyZ N (b.take i) (by omega) N 0 (by omega) (by omega)
   rw[show((0:Nat):Int)=(0:Int) from rfl,yD] at this
   rw[this]
   simp only[ye]
   cases ha:(b.take i).all wH with
   |true=>
    simp only[if_true,zi]
    have hr:=h4 ha
    rw[hr,if_pos ⟨by omega,h3⟩,wri (by omega) (by omega)]
    congr 2
   |false=>
    simp only[yC,if_false,zi]
    rw[if_neg]
    intro⟨h5,h6⟩
    have hlt:=(yG.1 h6).1
    have hf:=zex zgy b 0 hlt h6
    rw[h1] at hf
    have hri:run wH b=i:=by omega
    have:=zjG wH b
    rw[hri] at this
    rw[this] at ha;cases ha
def sq:List UInt8->Option (List UInt8×Nat)
 | []=>none
 |c::l=>if c=34 then some ([],1) else if c=92 then match l with
  | []=>none
  |d::l=>if d=34\/d=92 then match sq l with
   |some (o,n)=>some (d::o,n+2)
   |none=>none
   else none
  else if zeT c=true then match sq l with
   |some (o,n)=>some (c::o,n+1)
   |none=>none
  else none
theorem znb:∀ (l:List UInt8) {o:List UInt8} {n:Nat},sq l=some (o,n)->n<=l.length/\o.length<n
 | [],o,n,h=>by cases h
 |c::l,o,n,h=>by
  unfold sq at h
  split at h
  ·cases h;simp
  ·split at h
   ·split at h
    ·cases h
    ·rename_i d l'
     split at h
     ·split at h
      ·rename_i o' n' h'
       have:=znb l' h'
       cases h
       simp;omega
      ·cases h
     ·cases h
   ·split at h
    ·split at h
     ·rename_i o' n' h'
      have:=znb l h'
      cases h
      simp;omega
     ·cases h
    ·cases h
theorem xH{n:Nat}(h:n<=200000):yq n qc=true:=by
 rw[Nat.blt_eq];unfold qc;omega
theorem zmY:zeT 34=true:=by kernel_rfl
theorem zmX:zeT 92=true:=by kernel_rfl
def QP(b out:List UInt8)(i:Nat)(o:Option (Bool×List UInt8×Int×List UInt8)):Prop:=match sq (b.drop i) with
 |some (r,n)=>o=some (true,b,((i+n:Nat):Int),out++r)
 |none=>∃ a o',o=some (false,b,a,o')
theorem zxj(N:Nat)(b:List UInt8)(hb:b.length<=100000):∀ (m i:Nat) (out:List UInt8),i<=b.length->out.length<=i->b.length<m+i->QP b out i (zW N m b (i:Int) out)
 |0,i,out,h,ho,h'=>by omega
 |m+1,i,out,h,ho,h'=>by
  unfold zW wX
  have d0:decide ((i:Int)<0)=false:=by simp
  by_cases hi:i<b.length
  ·have d1:decide (((b.length:Nat):Int)<=(i:Int))=false:=by simp;omega
   have w1:ya .i64 ((i:Int)+1)=((i+1:Nat):Int):=by rw[wri (by omega) (by omega)];omega
   have w2:ya .i64 (((i+1:Nat):Int)-1)=(i:Int):=by rw[wri (by omega) (by omega)];omega
   simp only[d0,d1,cond_false,w1,w2,zZ hi,cond_true,yf,jr (u:=.u8) hi]
   unfold QP
   rw[drop_one hi]
   unfold sq
   cases hc:b[i]==(34:UInt8) with
   |true=>
    rw[beq_iff_eq] at hc
    simp [hc]
   |false=>
    have hc':¬ b[i]=34:=by simpa using hc
    simp only[cond_false,hc',if_false]
    cases hd:b[i]==(92:UInt8) with
    |true=>
     have hd':b[i]=92:=by simpa using hd
     have d2:decide (((i+1:Nat):Int)<0)=false:=by simp;omega
     simp only[cond_true,hd',if_true,d2,cond_false]
     by_cases hi2:i+1<b.length
     ·have d3:decide (((b.length:Nat):Int)<=((i+1:Nat):Int))=false:=by simp;omega
      have w3:ya .i64 (((i+1:Nat):Int)+1)=((i+2:Nat):Int):=by rw[wri (by omega) (by omega)];omega
      have w4:ya .i64 (((i+2:Nat):Int)-1)=((i+1:Nat):Int):=by rw[wri (by omega) (by omega)];omega
      simp only[d3,cond_false,w3,w4,zZ hi2,cond_true,yf,jr (u:=.u8) hi2,zwD,ye,xH (show out.length+1<=200000 by omega)]
      have ih:=zxj N b hb m (i+2) (out++[b[i+1]]) (by omega) (by simp;omega) (by omega)
      unfold QP at ih
      rw[drop_one hi2]
      simp only
      cases he:b[i+1] != (34:UInt8) with
      |true=>
       have he':¬ b[i+1]=34:=by simpa using he
       cases hf:b[i+1] != (92:UInt8) with
       |true=>
        have hf':¬ b[i+1]=92:=by simpa using hf
        simp only[cond_true,he',hf',or_self,if_false]
        exact⟨_,_,rfl⟩
       |false=>
        have hf':b[i+1]=92:=by simpa using hf
        rw[hf'] at ih
        simp only[cond_true,cond_false,hf',or_true,if_true,zmX,yn]
        split at ih
        ·rename_i r n hr
         (first|simp only[hr]|skip)
         rw[ih]
         simp only[yA,yw,yo,Option.some.injEq,Prod.mk.injEq,true_and,and_true]
         omega
        ·rename_i hr
         (first|simp only[hr]|skip)
         exact ih
      |false=>
       have he':b[i+1]=34:=by simpa using he
       rw[he'] at ih
       simp only[cond_false,he',true_or,if_true,zmY,yn]
       split at ih
       ·rename_i r n hr
        (first|simp only[hr]|skip)
        rw[ih]
        simp only[yA,yw,yo,Option.some.injEq,Prod.mk.injEq,true_and,and_true]
        omega
       ·rename_i hr
        (first|simp only[hr]|skip)
        exact ih
     ·have d3:decide (((b.length:Nat):Int)<=((i+1:Nat):Int))=true:=by simp;omega
      rw[yy (by omega)]
      simp only[d3,cond_true]
      exact⟨_,_,rfl⟩
    |false=>
     have hd':¬ b[i]=92:=by simpa using hd
     simp only[cond_false,hd',if_false,zwD,ye,xH (show out.length+1<=200000 by omega),cond_true]
     cases ht:zeT b[i] with
     |true=>
      simp only[yn,cond_false,if_true]
      have ih:=zxj N b hb m (i+1) (out++[b[i]]) (by omega) (by simp;omega) (by omega)
      unfold QP at ih
      split at ih
      ·rename_i r n hr
       (first|simp only[hr]|skip)
       rw[ih]
       simp only[yA,yw,yo,Option.some.injEq,Prod.mk.injEq,true_and,and_true]
       omega
      ·rename_i hr
       (first|simp only[hr]|skip)
       exact ih
     |false=>
      simp only[yx,cond_true,yC,if_false]
      exact⟨_,_,rfl⟩
  ·have d1:decide (((b.length:Nat):Int)<=(i:Int))=true:=by simp;omega
   simp only[d0,d1,cond_false,cond_true]
   unfold QP
   rw[yy (by omega)]
   exact⟨_,_,rfl⟩
def RQ(b out:List UInt8)(i:Nat)(o:Option (List UInt8 ⊕ (List UInt8×Int×List UInt8))):Prop:=match sq (b.drop i) with
 |some (r,n)=>∃ k:Nat,i+n=k+1/\k<b.length/\o=some (Sum.inr (b,(k:Int),out++r))
 |none=>(∃ o',o=some (Sum.inl o'))\/∃ o' k,((b.length:Nat):Int)<=k/\o=some (Sum.inr (b,k,o'))
theorem zur(N:Nat)(b:List UInt8)(hb:b.length<=100000):∀ (m i:Nat) (out:List UInt8),i<=b.length->out.length<=i->b.length<m+i->RQ b out i (zY N m b (i:Int) out)
 |0,i,out,h,ho,h'=>by omega
 |m+1,i,out,h,ho,h'=>by
  unfold zY ke
  by_cases hi:i<b.length
  ·have w1:ya .i64 ((i:Int)+1)=((i+1:Nat):Int):=by rw[wri (by omega) (by omega)];omega
   simp only[zhN hi,w1,zZ hi,cond_true,yf,jr (u:=.u8) hi]
   unfold RQ
   rw[drop_one hi]
   unfold sq
   cases hc:b[i] != (34:UInt8) with
   |false=>
    have hc':b[i]=34:=by simpa using hc
    simp only[cond_false,hc',if_true]
    exact⟨i,rfl,hi,by simp⟩
   |true=>
    have hc':¬ b[i]=34:=by simpa using hc
    simp only[cond_true,hc',if_false]
    cases hd:b[i]==(92:UInt8) with
    |true=>
     have hd':b[i]=92:=by simpa using hd
     simp only[cond_true,hd',if_true]
     by_cases hi2:i+1<b.length
     ·have d3:decide (((b.length:Nat):Int)<=((i+1:Nat):Int))=false:=by simp;omega
      have w3:ya .i64 (((i+1:Nat):Int)+1)=((i+2:Nat):Int):=by rw[wri (by omega) (by omega)];omega
      simp only[d3,cond_false,w3,zZ hi2,cond_true,jr (u:=.u8) hi2,zwE,ye,xH (show out.length+1<=200000 by omega)]
      have ih:=zur N b hb m (i+2) (out++[b[i+1]]) (by omega) (by simp;omega) (by omega)
      unfold RQ at ih
      rw[drop_one hi2]
      simp only
      cases he:b[i+1] != (34:UInt8) with
      |true=>
       have he':¬ b[i+1]=34:=by simpa using he
       cases hf:b[i+1] != (92:UInt8) with
       |true=>
        have hf':¬ b[i+1]=92:=by simpa using hf
        simp only[cond_true,he',hf',or_self,if_false]
        exact .inl ⟨_,rfl⟩
       |false=>
        have hf':b[i+1]=92:=by simpa using hf
        rw[hf'] at ih
        simp only[cond_true,cond_false,hf',or_true,if_true,zmX,yn]
        split at ih
        ·rename_i r n hr
         (first|simp only[hr]|skip)
         obtain⟨k,h1,h2,h3⟩:=ih
         refine⟨k,by omega,h2,?_⟩
         rw[h3]
         simp only[yA,yw,yo]
        ·rename_i hr
         (first|simp only[hr]|skip)
         exact ih
      |false=>
       have he':b[i+1]=34:=by simpa using he
       rw[he'] at ih
       simp only[cond_false,he',true_or,if_true,zmY,yn]
       split at ih
       ·rename_i r n hr
        (first|simp only[hr]|skip)
        obtain⟨k,h1,h2,h3⟩:=ih
        refine⟨k,by omega,h2,?_⟩
        rw[h3]
        simp only[yA,yw,yo]
       ·rename_i hr
        (first|simp only[hr]|skip)
        exact ih
     ·have d3:decide (((b.length:Nat):Int)<=((i+1:Nat):Int))=true:=by simp;omega
      rw[yy (by omega)]
      simp only[d3,cond_true]
      exact .inl ⟨_,rfl⟩
    |false=>
     have hd':¬ b[i]=92:=by simpa using hd
     simp only[cond_false,hd',if_false,zwE,ye,xH (show out.length+1<=200000 by omega),cond_true]
     cases ht:zeT b[i] with
     |true=>
      simp only[yn,cond_false,if_true]
      have ih:=zur N b hb m (i+1) (out++[b[i]]) (by omega) (by simp;omega) (by omega)
      unfold RQ at ih
      split at ih
      ·rename_i r n hr
       (first|simp only[hr]|skip)
       obtain⟨k,h1,h2,h3⟩:=ih
       refine⟨k,by omega,h2,?_⟩
       rw[h3]
       simp only[yA,yw,yo]
      ·rename_i hr
       (first|simp only[hr]|skip)
       exact ih
     |false=>
      simp only[yx,cond_true,yC,if_false]
      exact .inl ⟨_,rfl⟩
  ·simp only[zhM hi,cond_false]
   unfold RQ
   rw[yy (by omega)]
   exact .inr ⟨_,_,by omega,rfl⟩
def zu0(b:List UInt8)(i:Nat):Option ((List UInt8)×Int×Bool×Unit):=some (match(if b[i]?=some 34 then sq (b.drop (i+1)) else none) with
 |some (r,n)=>(r,((i+1+n:Nat):Int),true,())
 |none=>([],0,false,()))
theorem zrQ(N:Nat)(b:List UInt8)(hb:b.length<=100000)(hN:b.length<N)(i:Nat)(hi:i<b.length):jY N b (i:Int)=zu0 b i:=by
 unfold jY zu0
 have d0:decide ((i:Int)<0)=false:=by simp
 have d1:decide (((b.length:Nat):Int)<=(i:Int))=false:=by simp;omega
 have w1:ya .i64 ((i:Int)+1)=((i+1:Nat):Int):=by rw[wri (by omega) (by omega)];omega
 have w2:ya .i64 (((i+1:Nat):Int)-1)=(i:Int):=by rw[wri (by omega) (by omega)];omega
 simp only[d0,d1,cond_false,w1,w2,zZ hi,cond_true,yf,jr (u:=.u8) hi,yg hi,Option.some.injEq]
 cases hc:b[i]==(34:UInt8) with
 |false=>
  have hc':¬ b[i]=34:=by simpa using hc
  simp [hc']
 |true=>
  have hc':b[i]=34:=by simpa using hc
  have:=zxj N b hb N (i+1) [] (by omega) (by simp) (by omega)
  unfold QP at this
  simp only[hc',if_true,yn,cond_false]
  split at this
  ·rename_i r n hr
   (first|simp only[hr]|skip)
   rw[this];rfl
  ·rename_i hr
   (first|simp only[hr]|skip)
   obtain⟨a,o',h⟩:=this
   rw[h];rfl
theorem zun(N:Nat)(b:List UInt8)(hb:b.length<=100000)(hN:b.length<N)(i:Nat)(hi:i<b.length):jZ N b (i:Int)=zu0 b i:=by
 unfold jZ zu0
 have d0:decide ((i:Int)<0)=false:=by simp
 have d1:decide (((b.length:Nat):Int)<=(i:Int))=false:=by simp;omega
 have w1:ya .i64 ((i:Int)+1)=((i+1:Nat):Int):=by rw[wri (by omega) (by omega)];omega
 simp only[d0,d1,cond_false,w1,zZ hi,cond_true,yf,jr (u:=.u8) hi,yg hi,Option.some.injEq]
 cases hc:b[i] != (34:UInt8) with
 |true=>
  have hc':¬ b[i]=34:=by simpa using hc
  simp [hc']
 |false=>
  have hc':b[i]=34:=by simpa using hc
  have:=zur N b hb N (i+1) [] (by omega) (by simp) (by omega)
  unfold RQ at this
  simp only[hc',if_true,cond_false]
  split at this
  ·rename_i r n hr
   (first|simp only[hr]|skip)
   obtain⟨k,h1,h2,h3⟩:=this
   rw[h3]
   have d2:decide (((b.length:Nat):Int)<=(k:Int))=false:=by simp;omega
   simp only[ye,zi,d2,cond_false,yo]
   rw[wri (by omega) (by omega)]
   simp only[Option.some.injEq,Prod.mk.injEq,true_and,and_true]
   omega
  ·rename_i hr
   (first|simp only[hr]|skip)
   rcases this with⟨o',h⟩|⟨o',k,hk,h⟩
   ·rw[h];rfl
   ·rw[h]
    have d2:decide (((b.length:Nat):Int)<=k)=true:=by simpa using hk
    simp only[ye,zi,d2,cond_true]
def dgt(n k:Nat):UInt8:=yh (48+n/k % 10)
theorem zf1(n:Nat):yi ((n:Nat):Int) 100=((n % 100:Nat):Int):=rfl
theorem zf2(n:Nat):yi ((n:Nat):Int) 10000=((n % 10000:Nat):Int):=rfl
theorem zf3(n:Nat):yi ((n:Nat):Int) 100000000=((n % 100000000:Nat):Int):=rfl
theorem zfY(n:Nat):yp ((n:Nat):Int) 100=((n/100:Nat):Int):=rfl
theorem zfZ(n:Nat):yp ((n:Nat):Int) 10000=((n/10000:Nat):Int):=rfl
theorem zf0(n:Nat):yp ((n:Nat):Int) 100000000=((n/100000000:Nat):Int):=rfl
theorem zkI(n:Nat):((n:Nat):Int)*2=((n*2:Nat):Int):=rfl
theorem zgH(n:Nat):((n:Nat):Int)+1=((n+1:Nat):Int):=rfl
theorem zfF(n:Nat):(48:Int)+((n:Nat):Int)=((48+n:Nat):Int):=rfl
theorem zog{n:Nat}(h:n<4294967296):ya .u32 ((n:Nat):Int)=((n:Nat):Int):=by rw[IntKind.wrap_u32];omega
theorem ziG{n:Nat}(h:n<18446744073709551616):ya .u64 ((n:Nat):Int)=((n:Nat):Int):=by rw[IntKind.wrap_u64];omega
theorem zbo{k:Nat}(h:k<100):nth .u8 zcL (k*2)=yh (48+k/10):=by
 have key:((yR 100).all fun k=>nth .u8 zcL (k*2)==yh (48+k/10))=true:=by kernel_rfl
 rw[yM] at key
 exact beq_iff_eq.1 (key k (yO.2 h))
theorem zda{k:Nat}(h:k<100):nth .u8 zcL (k*2+1)=yh (48+k % 10):=by
 have key:((yR 100).all fun k=>nth .u8 zcL (k*2+1)==yh (48+k % 10))=true:=by kernel_rfl
 rw[yM] at key
 exact beq_iff_eq.1 (key k (yO.2 h))
theorem wJ{n:Nat}(h:n<256):zbv ((n:Nat):Int)=yh n:=by
 unfold zbv
 rw[IntKind.wrap_u8,show(((n:Nat):Int) % 256).toNat=n by omega]
theorem xV{n a b:Nat}(h:a=n/b % 10):yh (48+a)=dgt n b:=by rw[h];rfl
theorem zzN(N n:Nat)(hN:10<=N)(h1:100<=n)(h2:n<1000)(hm:n<4294967296)(hd:zv N ((n:Nat):Int)=some ((3:Int),())):zq N ((n:Nat):Int)=some ([dgt n 100,dgt n 10,dgt n 1],()):=by
 obtain⟨m,hm2⟩:∃ m,N=m+2:=⟨N-2,by omega⟩
 have hl:zd N N=zd N (m+2):=congrArg _ hm2
 have c0:decide (((n:Nat):Int)<100)=false:=by simp;omega
 unfold zq
 simp only[ziG (show n<18446744073709551616 by omega)]
 simp only[hd,hl,ye,c0,cond_false,cond_true,show qZ (0:Int) (3:Int) 24=true from rfl,show((yc (3:Int))-0:Nat)=3 from rfl]
 unfold zd zw
 simp (disch:=omega) only[zog,ziG,zf1,zf2,zf3,zfY,zfZ,zf0,zkI,zgH,zfF,yf,zZ,zbo,zda,wJ,cond_true,cond_false,ye,
  show inb (0:Int) 3=true from rfl,show inb (1:Int) 3=true from rfl,show inb (2:Int) 3=true from rfl,show(0+yc (1:Int):Nat)=1 from rfl,show(0+yc (2:Int):Nat)=2 from rfl,show(0+0:Nat)=0 from rfl,show(0+3:Nat)=3 from rfl,show decide ((8:Int)<=((3:Nat):Int))=false from rfl,show decide ((4:Int)<=((3:Nat):Int))=false from rfl,show decide ((2:Int)<=((3:Nat):Int))=true from rfl,show ya .i64 (((3:Nat):Int)-(1:Int))=(2:Int) from rfl,show ya .i64 (((3:Nat):Int)-(2:Int))=(1:Int) from rfl,show decide ((0:Int)<(1:Int))=true from rfl]
 simp only[slice,yE,yF,yD,yz,yI,yN,Option.some.injEq,Prod.mk.injEq,List.cons.injEq,and_true]
 refine⟨?_,?_,?_⟩<;>exact xV (by omega)
theorem zzO(N n:Nat)(hN:10<=N)(h1:1000<=n)(h2:n<10000)(hm:n<4294967296)(hd:zv N ((n:Nat):Int)=some ((4:Int),())):zq N ((n:Nat):Int)=some ([dgt n 1000,dgt n 100,dgt n 10,dgt n 1],()):=by
 obtain⟨m,hm2⟩:∃ m,N=m+2:=⟨N-2,by omega⟩
 have hl:zd N N=zd N (m+2):=congrArg _ hm2
 have c0:decide (((n:Nat):Int)<100)=false:=by simp;omega
 unfold zq
 simp only[ziG (show n<18446744073709551616 by omega)]
 simp only[hd,hl,ye,c0,cond_false,cond_true,show qZ (0:Int) (4:Int) 24=true from rfl,show((yc (4:Int))-0:Nat)=4 from rfl]
 unfold zd zw
 simp (disch:=omega) only[zog,ziG,zf1,zf2,zf3,zfY,zfZ,zf0,zkI,zgH,zfF,yf,zZ,zbo,zda,wJ,cond_true,cond_false,ye,
  show inb (0:Int) 4=true from rfl,show inb (1:Int) 4=true from rfl,show inb (2:Int) 4=true from rfl,show inb (3:Int) 4=true from rfl,show(0+yc (0:Int):Nat)=0 from rfl,show(0+yc (1:Int):Nat)=1 from rfl,show(0+yc (2:Int):Nat)=2 from rfl,show(0+yc (3:Int):Nat)=3 from rfl,show(0+0:Nat)=0 from rfl,show(0+4:Nat)=4 from rfl,show decide ((8:Int)<=((4:Nat):Int))=false from rfl,show decide ((4:Int)<=((4:Nat):Int))=true from rfl,show ya .i64 (((4:Nat):Int)-(1:Int))=(3:Int) from rfl,show ya .i64 (((4:Nat):Int)-(2:Int))=(2:Int) from rfl,show ya .i64 (((4:Nat):Int)-(3:Int))=(1:Int) from rfl,show ya .i64 (((4:Nat):Int)-(4:Int))=(0:Int) from rfl,show decide ((2:Int)<=(0:Int))=false from rfl,show decide ((0:Int)<(0:Int))=false from rfl]
 simp only[slice,yE,yF,yD,yz,yI,yN,Option.some.injEq,Prod.mk.injEq,List.cons.injEq,and_true]
 refine⟨?_,?_,?_,?_⟩<;>exact xV (by omega)
theorem zzP(N n:Nat)(hN:10<=N)(h1:10000<=n)(h2:n<100000)(hm:n<4294967296)(hd:zv N ((n:Nat):Int)=some ((5:Int),())):zq N ((n:Nat):Int)=some ([dgt n 10000,dgt n 1000,dgt n 100,dgt n 10,dgt n 1],()):=by
 obtain⟨m,hm2⟩:∃ m,N=m+2:=⟨N-2,by omega⟩
 have hl:zd N N=zd N (m+2):=congrArg _ hm2
 have c0:decide (((n:Nat):Int)<100)=false:=by simp;omega
 unfold zq
 simp only[ziG (show n<18446744073709551616 by omega)]
 simp only[hd,hl,ye,c0,cond_false,cond_true,show qZ (0:Int) (5:Int) 24=true from rfl,show((yc (5:Int))-0:Nat)=5 from rfl]
 unfold zd zw
 simp (disch:=omega) only[zog,ziG,zf1,zf2,zf3,zfY,zfZ,zf0,zkI,zgH,zfF,yf,zZ,zbo,zda,wJ,cond_true,cond_false,ye,
  show inb (0:Int) 5=true from rfl,show inb (1:Int) 5=true from rfl,show inb (2:Int) 5=true from rfl,show inb (3:Int) 5=true from rfl,show inb (4:Int) 5=true from rfl,show(0+yc (1:Int):Nat)=1 from rfl,show(0+yc (2:Int):Nat)=2 from rfl,show(0+yc (3:Int):Nat)=3 from rfl,show(0+yc (4:Int):Nat)=4 from rfl,show(0+0:Nat)=0 from rfl,show(0+5:Nat)=5 from rfl,show decide ((8:Int)<=((5:Nat):Int))=false from rfl,show decide ((4:Int)<=((5:Nat):Int))=true from rfl,show ya .i64 (((5:Nat):Int)-(1:Int))=(4:Int) from rfl,show ya .i64 (((5:Nat):Int)-(2:Int))=(3:Int) from rfl,show ya .i64 (((5:Nat):Int)-(3:Int))=(2:Int) from rfl,show ya .i64 (((5:Nat):Int)-(4:Int))=(1:Int) from rfl,show decide ((2:Int)<=(1:Int))=false from rfl,show decide ((0:Int)<(1:Int))=true from rfl]
 simp only[slice,yE,yF,yD,yz,yI,yN,Option.some.injEq,Prod.mk.injEq,List.cons.injEq,and_true]
 refine⟨?_,?_,?_,?_,?_⟩<;>exact xV (by omega)
theorem zzQ(N n:Nat)(hN:10<=N)(h1:100000<=n)(h2:n<1000000)(hm:n<4294967296)(hd:zv N ((n:Nat):Int)=some ((6:Int),())):zq N ((n:Nat):Int)=some ([dgt n 100000,dgt n 10000,dgt n 1000,dgt n 100,dgt n 10,dgt n 1],()):=by
 obtain⟨m,hm2⟩:∃ m,N=m+2:=⟨N-2,by omega⟩
 have hl:zd N N=zd N (m+2):=congrArg _ hm2
 have c0:decide (((n:Nat):Int)<100)=false:=by simp;omega
 unfold zq
 simp only[ziG (show n<18446744073709551616 by omega)]
 simp only[hd,hl,ye,c0,cond_false,cond_true,show qZ (0:Int) (6:Int) 24=true from rfl,show((yc (6:Int))-0:Nat)=6 from rfl]
 unfold zd zw
 simp (disch:=omega) only[zog,ziG,zf1,zf2,zf3,zfY,zfZ,zf0,zkI,zgH,zfF,yf,zZ,zbo,zda,wJ,cond_true,cond_false,ye,
  show inb (0:Int) 6=true from rfl,show inb (1:Int) 6=true from rfl,show inb (2:Int) 6=true from rfl,show inb (3:Int) 6=true from rfl,show inb (4:Int) 6=true from rfl,show inb (5:Int) 6=true from rfl,show(0+yc (0:Int):Nat)=0 from rfl,show(0+yc (1:Int):Nat)=1 from rfl,show(0+yc (2:Int):Nat)=2 from rfl,show(0+yc (3:Int):Nat)=3 from rfl,show(0+yc (4:Int):Nat)=4 from rfl,show(0+yc (5:Int):Nat)=5 from rfl,show(0+0:Nat)=0 from rfl,show(0+6:Nat)=6 from rfl,show decide ((8:Int)<=((6:Nat):Int))=false from rfl,show decide ((4:Int)<=((6:Nat):Int))=true from rfl,show ya .i64 (((6:Nat):Int)-(1:Int))=(5:Int) from rfl,show ya .i64 (((6:Nat):Int)-(2:Int))=(4:Int) from rfl,show ya .i64 (((6:Nat):Int)-(3:Int))=(3:Int) from rfl,show ya .i64 (((6:Nat):Int)-(4:Int))=(2:Int) from rfl,show decide ((2:Int)<=(2:Int))=true from rfl,show ya .i64 ((2:Int)-(1:Int))=(1:Int) from rfl,show ya .i64 ((2:Int)-(2:Int))=(0:Int) from rfl,show decide ((0:Int)<(0:Int))=false from rfl]
 simp only[slice,yE,yF,yD,yz,yI,yN,Option.some.injEq,Prod.mk.injEq,List.cons.injEq,and_true]
 refine⟨?_,?_,?_,?_,?_,?_⟩<;>exact xV (by omega)
theorem zzR(N n:Nat)(hN:10<=N)(h1:1000000<=n)(h2:n<10000000)(hm:n<4294967296)(hd:zv N ((n:Nat):Int)=some ((7:Int),())):zq N ((n:Nat):Int)=some ([dgt n 1000000,dgt n 100000,dgt n 10000,dgt n 1000,dgt n 100,dgt n 10,dgt n 1],()):=by
 obtain⟨m,hm2⟩:∃ m,N=m+2:=⟨N-2,by omega⟩
 have hl:zd N N=zd N (m+2):=congrArg _ hm2
 have c0:decide (((n:Nat):Int)<100)=false:=by simp;omega
 unfold zq
 simp only[ziG (show n<18446744073709551616 by omega)]
 simp only[hd,hl,ye,c0,cond_false,cond_true,show qZ (0:Int) (7:Int) 24=true from rfl,show((yc (7:Int))-0:Nat)=7 from rfl]
 unfold zd zw
 simp (disch:=omega) only[zog,ziG,zf1,zf2,zf3,zfY,zfZ,zf0,zkI,zgH,zfF,yf,zZ,zbo,zda,wJ,cond_true,cond_false,ye,
  show inb (0:Int) 7=true from rfl,show inb (1:Int) 7=true from rfl,show inb (2:Int) 7=true from rfl,show inb (3:Int) 7=true from rfl,show inb (4:Int) 7=true from rfl,show inb (5:Int) 7=true from rfl,show inb (6:Int) 7=true from rfl,show(0+yc (1:Int):Nat)=1 from rfl,show(0+yc (2:Int):Nat)=2 from rfl,show(0+yc (3:Int):Nat)=3 from rfl,show(0+yc (4:Int):Nat)=4 from rfl,show(0+yc (5:Int):Nat)=5 from rfl,show(0+yc (6:Int):Nat)=6 from rfl,show(0+0:Nat)=0 from rfl,show(0+7:Nat)=7 from rfl,show decide ((8:Int)<=((7:Nat):Int))=false from rfl,show decide ((4:Int)<=((7:Nat):Int))=true from rfl,show ya .i64 (((7:Nat):Int)-(1:Int))=(6:Int) from rfl,show ya .i64 (((7:Nat):Int)-(2:Int))=(5:Int) from rfl,show ya .i64 (((7:Nat):Int)-(3:Int))=(4:Int) from rfl,show ya .i64 (((7:Nat):Int)-(4:Int))=(3:Int) from rfl,show decide ((2:Int)<=(3:Int))=true from rfl,show ya .i64 ((3:Int)-(1:Int))=(2:Int) from rfl,show ya .i64 ((3:Int)-(2:Int))=(1:Int) from rfl,show decide ((0:Int)<(1:Int))=true from rfl]
 simp only[slice,yE,yF,yD,yz,yI,yN,Option.some.injEq,Prod.mk.injEq,List.cons.injEq,and_true]
 refine⟨?_,?_,?_,?_,?_,?_,?_⟩<;>exact xV (by omega)
theorem zzS(N n:Nat)(hN:10<=N)(h1:10000000<=n)(h2:n<100000000)(hm:n<4294967296)(hd:zv N ((n:Nat):Int)=some ((8:Int),())):zq N ((n:Nat):Int)=some ([dgt n 10000000,dgt n 1000000,dgt n 100000,dgt n 10000,dgt n 1000,dgt n 100,dgt n 10,dgt n 1],()):=by
 obtain⟨m,hm2⟩:∃ m,N=m+2:=⟨N-2,by omega⟩
 have hl:zd N N=zd N (m+2):=congrArg _ hm2
 have c0:decide (((n:Nat):Int)<100)=false:=by simp;omega
 unfold zq
 simp only[ziG (show n<18446744073709551616 by omega)]
 simp only[hd,hl,ye,c0,cond_false,cond_true,show qZ (0:Int) (8:Int) 24=true from rfl,show((yc (8:Int))-0:Nat)=8 from rfl]
 unfold zd zw
 unfold zd zw
 simp (disch:=omega) only[zog,ziG,zf1,zf2,zf3,zfY,zfZ,zf0,zkI,zgH,zfF,yf,zZ,zbo,zda,wJ,cond_true,cond_false,ye,
  show inb (0:Int) 8=true from rfl,show inb (1:Int) 8=true from rfl,show inb (2:Int) 8=true from rfl,show inb (3:Int) 8=true from rfl,show inb (4:Int) 8=true from rfl,show inb (5:Int) 8=true from rfl,show inb (6:Int) 8=true from rfl,show inb (7:Int) 8=true from rfl,show(0+yc (0:Int):Nat)=0 from rfl,show(0+yc (1:Int):Nat)=1 from rfl,show(0+yc (2:Int):Nat)=2 from rfl,show(0+yc (3:Int):Nat)=3 from rfl,show(0+yc (4:Int):Nat)=4 from rfl,show(0+yc (5:Int):Nat)=5 from rfl,show(0+yc (6:Int):Nat)=6 from rfl,show(0+yc (7:Int):Nat)=7 from rfl,show(0+0:Nat)=0 from rfl,show(0+8:Nat)=8 from rfl,show decide ((8:Int)<=((8:Nat):Int))=true from rfl,show ya .i64 (((8:Nat):Int)-(1:Int))=(7:Int) from rfl,show ya .i64 (((8:Nat):Int)-(2:Int))=(6:Int) from rfl,show ya .i64 (((8:Nat):Int)-(3:Int))=(5:Int) from rfl,show ya .i64 (((8:Nat):Int)-(4:Int))=(4:Int) from rfl,show ya .i64 (((8:Nat):Int)-(5:Int))=(3:Int) from rfl,show ya .i64 (((8:Nat):Int)-(6:Int))=(2:Int) from rfl,show ya .i64 (((8:Nat):Int)-(7:Int))=(1:Int) from rfl,show ya .i64 (((8:Nat):Int)-(8:Int))=(0:Int) from rfl,show decide ((8:Int)<=(0:Int))=false from rfl,show decide ((4:Int)<=(0:Int))=false from rfl,show decide ((2:Int)<=(0:Int))=false from rfl,show decide ((0:Int)<(0:Int))=false from rfl]
 simp only[slice,yE,yF,yD,yz,yI,yN,Option.some.injEq,Prod.mk.injEq,List.cons.injEq,and_true]
 refine⟨?_,?_,?_,?_,?_,?_,?_,?_⟩<;>exact xV (by omega)
theorem zzT(N n:Nat)(hN:10<=N)(h1:100000000<=n)(h2:n<1000000000)(hm:n<4294967296)(hd:zv N ((n:Nat):Int)=some ((9:Int),())):zq N ((n:Nat):Int)=some ([dgt n 100000000,dgt n 10000000,dgt n 1000000,dgt n 100000,dgt n 10000,dgt n 1000,dgt n 100,dgt n 10,dgt n 1],()):=by
 obtain⟨m,hm2⟩:∃ m,N=m+2:=⟨N-2,by omega⟩
 have hl:zd N N=zd N (m+2):=congrArg _ hm2
 have c0:decide (((n:Nat):Int)<100)=false:=by simp;omega
 unfold zq
 simp only[ziG (show n<18446744073709551616 by omega)]
 simp only[hd,hl,ye,c0,cond_false,cond_true,show qZ (0:Int) (9:Int) 24=true from rfl,show((yc (9:Int))-0:Nat)=9 from rfl]
 unfold zd zw
 unfold zd zw
 simp (disch:=omega) only[zog,ziG,zf1,zf2,zf3,zfY,zfZ,zf0,zkI,zgH,zfF,yf,zZ,zbo,zda,wJ,cond_true,cond_false,ye,
  show inb (0:Int) 9=true from rfl,show inb (1:Int) 9=true from rfl,show inb (2:Int) 9=true from rfl,show inb (3:Int) 9=true from rfl,show inb (4:Int) 9=true from rfl,show inb (5:Int) 9=true from rfl,show inb (6:Int) 9=true from rfl,show inb (7:Int) 9=true from rfl,show inb (8:Int) 9=true from rfl,show(0+yc (1:Int):Nat)=1 from rfl,show(0+yc (2:Int):Nat)=2 from rfl,show(0+yc (3:Int):Nat)=3 from rfl,show(0+yc (4:Int):Nat)=4 from rfl,show(0+yc (5:Int):Nat)=5 from rfl,show(0+yc (6:Int):Nat)=6 from rfl,show(0+yc (7:Int):Nat)=7 from rfl,show(0+yc (8:Int):Nat)=8 from rfl,show(0+0:Nat)=0 from rfl,show(0+9:Nat)=9 from rfl,show decide ((8:Int)<=((9:Nat):Int))=true from rfl,show ya .i64 (((9:Nat):Int)-(1:Int))=(8:Int) from rfl,show ya .i64 (((9:Nat):Int)-(2:Int))=(7:Int) from rfl,show ya .i64 (((9:Nat):Int)-(3:Int))=(6:Int) from rfl,show ya .i64 (((9:Nat):Int)-(4:Int))=(5:Int) from rfl,show ya .i64 (((9:Nat):Int)-(5:Int))=(4:Int) from rfl,show ya .i64 (((9:Nat):Int)-(6:Int))=(3:Int) from rfl,show ya .i64 (((9:Nat):Int)-(7:Int))=(2:Int) from rfl,show ya .i64 (((9:Nat):Int)-(8:Int))=(1:Int) from rfl,show decide ((8:Int)<=(1:Int))=false from rfl,show decide ((4:Int)<=(1:Int))=false from rfl,show decide ((2:Int)<=(1:Int))=false from rfl,show decide ((0:Int)<(1:Int))=true from rfl]
 simp only[slice,yE,yF,yD,yz,yI,yN,Option.some.injEq,Prod.mk.injEq,List.cons.injEq,and_true]
 refine⟨?_,?_,?_,?_,?_,?_,?_,?_,?_⟩<;>exact xV (by omega)
theorem zw4(N n:Nat)(hN:10<=N)(h1:1000000000<=n)(h2:n<10000000000)(hm:n<4294967296)(hd:zv N ((n:Nat):Int)=some ((10:Int),())):zq N ((n:Nat):Int)=some ([dgt n 1000000000,dgt n 100000000,dgt n 10000000,dgt n 1000000,dgt n 100000,dgt n 10000,dgt n 1000,dgt n 100,dgt n 10,dgt n 1],()):=by
 obtain⟨m,hm2⟩:∃ m,N=m+2:=⟨N-2,by omega⟩
 have hl:zd N N=zd N (m+2):=congrArg _ hm2
 have c0:decide (((n:Nat):Int)<100)=false:=by simp;omega
 unfold zq
 simp only[ziG (show n<18446744073709551616 by omega)]
 simp only[hd,hl,ye,c0,cond_false,cond_true,show qZ (0:Int) (10:Int) 24=true from rfl,show((yc (10:Int))-0:Nat)=10 from rfl]
 unfold zd zw
 unfold zd zw
 simp (disch:=omega) only[zog,ziG,zf1,zf2,zf3,zfY,zfZ,zf0,zkI,zgH,zfF,yf,zZ,zbo,zda,wJ,cond_true,cond_false,ye,
  show inb (0:Int) 10=true from rfl,show inb (1:Int) 10=true from rfl,show inb (2:Int) 10=true from rfl,show inb (3:Int) 10=true from rfl,show inb (4:Int) 10=true from rfl,show inb (5:Int) 10=true from rfl,show inb (6:Int) 10=true from rfl,show inb (7:Int) 10=true from rfl,show inb (8:Int) 10=true from rfl,show inb (9:Int) 10=true from rfl,show(0+yc (0:Int):Nat)=0 from rfl,show(0+yc (1:Int):Nat)=1 from rfl,show(0+yc (2:Int):Nat)=2 from rfl,show(0+yc (3:Int):Nat)=3 from rfl,show(0+yc (4:Int):Nat)=4 from rfl,show(0+yc (5:Int):Nat)=5 from rfl,show(0+yc (6:Int):Nat)=6 from rfl,show(0+yc (7:Int):Nat)=7 from rfl,show(0+yc (8:Int):Nat)=8 from rfl,show(0+yc (9:Int):Nat)=9 from rfl,show(0+0:Nat)=0 from rfl,show(0+10:Nat)=10 from rfl,show decide ((8:Int)<=((10:Nat):Int))=true from rfl,show ya .i64 (((10:Nat):Int)-(1:Int))=(9:Int) from rfl,show ya .i64 (((10:Nat):Int)-(2:Int))=(8:Int) from rfl,show ya .i64 (((10:Nat):Int)-(3:Int))=(7:Int) from rfl,show ya .i64 (((10:Nat):Int)-(4:Int))=(6:Int) from rfl,show ya .i64 (((10:Nat):Int)-(5:Int))=(5:Int) from rfl,show ya .i64 (((10:Nat):Int)-(6:Int))=(4:Int) from rfl,show ya .i64 (((10:Nat):Int)-(7:Int))=(3:Int) from rfl,show ya .i64 (((10:Nat):Int)-(8:Int))=(2:Int) from rfl,show decide ((8:Int)<=(2:Int))=false from rfl,show decide ((4:Int)<=(2:Int))=false from rfl,show decide ((2:Int)<=(2:Int))=true from rfl,show ya .i64 ((2:Int)-(1:Int))=(1:Int) from rfl,show ya .i64 ((2:Int)-(2:Int))=(0:Int) from rfl,show decide ((0:Int)<(0:Int))=false from rfl]
 simp only[slice,yE,yF,yD,yz,yI,yN,Option.some.injEq,Prod.mk.injEq,List.cons.injEq,and_true]
 refine⟨?_,?_,?_,?_,?_,?_,?_,?_,?_,?_⟩<;>exact xV (by omega)
theorem zoP(n m:Nat):yu ((n:Nat):Int) ((m:Nat):Int)=((n/m:Nat):Int):=by
 rw[Int.fdiv_eq_ediv_of_nonneg _ (by omega)];rfl
theorem p8:((2:Int) ^ (min (yc (8:Int)) (yj .u64)))=((256:Nat):Int):=rfl
theorem p16:((2:Int) ^ (min (yc (16:Int)) (yj .u64)))=((65536:Nat):Int):=rfl
theorem p18:((2:Int) ^ (min (yc (18:Int)) (yj .i64)))=((262144:Nat):Int):=rfl
def tL(k:Nat):Nat:=(nth .u8 zq0 k).toNat
theorem zqJ{k:Nat}(h:k<256)(h0:0<k):2 ^ (tL k-1)<=k/\k<2 ^ tL k/\1<=tL k/\tL k<=8:=by
 have key:((yR 256).all fun k=>k==0||(yS (2 ^ (tL k-1)) k&&(yq k (2 ^ tL k)&&(yS 1 (tL k)&&yS (tL k) 8))))=true:=by kernel_rfl
 rw[yM] at key
 have:=key k (yO.2 h)
 simp only[Bool.or_eq_true,vk,beq_iff_eq,Nat.blt_eq] at this
 rcases this with h1|⟨h1,h2,h3,h4⟩
 ·omega
 ·exact⟨yT h1,h2,yT h3,yT h4⟩
theorem u8n{k:Nat}(h:k<256):ym (zbv ((k:Nat):Int))=k:=by
 rw[wJ h,UInt8.toNat_ofNat'];omega
theorem zxd(N n:Nat)(h0:0<n)(h:n<4294967296):∃ L:Nat,1<=L/\L<=32/\2 ^ (L-1)<=n/\n<2 ^ L/\wj N ((n:Nat):Int)=some ((L:Int),()):=by
 have c1:decide ((4294967296:Int)<=((n:Nat):Int))=false:=by simp;omega
 unfold wj
 simp only[c1,cond_false,p8,p16,zoP]
 have fin:∀ (b k:Nat),k<256->0<k->b<=24->2 ^ b*k<=n->n<2 ^ b*(k+1)->∃ L:Nat,1<=L/\L<=32/\2 ^ (L-1)<=n/\n<2 ^ L/\(some (((b+tL k:Nat):Int),()):Option (Int×Unit))=some ((L:Int),()):=by
  intro b k hk hk0 hb h1 h2
  obtain⟨q1,q2,q3,q4⟩:=zqJ hk hk0
  refine⟨b+tL k,by omega,by omega,?_,?_,rfl⟩
  ·rw[show b+tL k-1=b+(tL k-1) by omega,Nat.pow_add]
   exact yV (vi _ q1) h1
  ·rw[Nat.pow_add]
   exact vj h2 (vi _ q2)
 have val:∀ (b k:Nat),k<256->b<=24->0<k->ya .i64 (((b:Nat):Int)+ya .i64 ((ym (nth .u8 zq0 (yc ((ym (zbv ((k:Nat):Int)):Nat):Int))):Nat):Int))=((b+tL k:Nat):Int):=by
  intro b k hk hb hk0
  have:=zqJ hk hk0
  rw[u8n hk,yf]
  show ya .i64 (((b:Nat):Int)+ya .i64 ((tL k:Nat):Int))=_
  rw[wri (x:=((tL k:Nat):Int)) (by omega) (by omega),wri (by omega) (by omega)];omega
 by_cases a1:65536<=n
 ·have c2:decide ((65536:Int)<=((n:Nat):Int))=true:=by simp;omega
  simp only[c2,cond_true]
  by_cases a2:256<=n/65536
  ·have c3:decide ((256:Int)<=((n/65536:Nat):Int))=true:=by simp only[decide_eq_true_eq];omega
   have hk:n/65536/256<256:=by omega
   simp only[c3,cond_true]
   rw[u8n hk,zZ hk,cond_true,<- u8n hk]
   have:=val 24 (n/65536/256) hk (by omega) (by omega)
   rw[u8n hk] at this |-
   rw[show((24:Nat):Int)=(24:Int) from rfl] at this
   rw[this]
   exact fin 24 _ hk (by omega) (by omega) (by omega) (by omega)
  ·have c3:decide ((256:Int)<=((n/65536:Nat):Int))=false:=by simp only[decide_eq_false_iff_not];omega
   have hk:n/65536<256:=by omega
   simp only[c3,cond_false]
   rw[u8n hk,zZ hk,cond_true]
   have:=val 16 (n/65536) hk (by omega) (by omega)
   rw[u8n hk,show((16:Nat):Int)=(16:Int) from rfl] at this
   rw[this]
   exact fin 16 _ hk (by omega) (by omega) (by omega) (by omega)
 ·have c2:decide ((65536:Int)<=((n:Nat):Int))=false:=by simp;omega
  simp only[c2,cond_false]
  by_cases a2:256<=n
  ·have c3:decide ((256:Int)<=((n:Nat):Int))=true:=by simp;omega
   have hk:n/256<256:=by omega
   simp only[c3,cond_true]
   rw[u8n hk,zZ hk,cond_true]
   have:=val 8 (n/256) hk (by omega) (by omega)
   rw[u8n hk,show((8:Nat):Int)=(8:Int) from rfl] at this
   rw[this]
   exact fin 8 _ hk (by omega) (by omega) (by omega) (by omega)
  ·have c3:decide ((256:Int)<=((n:Nat):Int))=false:=by simp;omega
   have hk:n<256:=by omega
   simp only[c3,cond_false]
   rw[u8n hk,zZ hk,cond_true]
   have:=val 0 n hk (by omega) (by omega)
   rw[u8n hk,show((0:Nat):Int)=(0:Int) from rfl] at this
   rw[this]
   exact fin 0 _ hk (by omega) (by omega) (by omega) (by omega)
def zxi:List Int:=[1,10,100,1000,10000,100000,1000000,10000000,100000000,1000000000,10000000000,100000000000,1000000000000,10000000000000,100000000000000,1000000000000000,10000000000000000,100000000000000000,1000000000000000000,10000000000000000000]
def pw(k:Nat):Int:=nth (.int .u64) zxi k
theorem digits(N n:Nat)(h0:0<n)(h:n<4294967296):∃ L:Nat,1<=L/\L<=32/\2 ^ (L-1)<=n/\n<2 ^ L/\zv N ((n:Nat):Int)=some (((L*78913/262144+(if pw (L*78913/262144)<=(n:Int) then 1 else 0):Nat):Int),()):=by
 obtain⟨L,h1,h2,h3,h4,h5⟩:=zxd N n h0 h
 refine⟨L,h1,h2,h3,h4,?_⟩
 unfold zv wQ wO
 simp only[h5,ye,p18]
 rw[wri (by omega) (by omega),show((L:Nat):Int)*78913=((L*78913:Nat):Int) from rfl,zoP]
 have ht:L*78913/262144<20:=by omega
 simp only[zZ ht,Bool.and_self,cond_true,yf]
 show yd (cond (decide (pw (L*78913/262144)<=(n:Int))) (some ((1:Int),())) (some ((0:Int),()))) _=_
 by_cases hc:pw (L*78913/262144)<=(n:Int)
 ·rw[decide_eq_true hc,if_pos hc]
  simp only[cond_true,ye]
  rw[wri (by omega) (by omega)];rfl
 ·rw[decide_eq_false hc,if_neg hc]
  simp only[cond_false,ye]
  rw[wri (by omega) (by omega)];rfl
theorem zsW(N n d:Nat)(h0:100<=n)(h:n<4294967296)(h1:3<=d)(h2:d<=10)(h3:10 ^ (d-1)<=n)(h4:n<10 ^ d):zv N ((n:Nat):Int)=some (((d:Nat):Int),()):=by
 obtain⟨L,q1,q2,q3,q4,q5⟩:=digits N n (by omega) h
 rw[q5]
 clear q5
 have hL:L=1\/L=2\/L=3\/L=4\/L=5\/L=6\/L=7\/L=8\/L=9\/L=10\/L=11\/L=12\/L=13\/L=14\/L=15\/L=16\/L=17\/L=18\/L=19\/L=20\/L=21\/L=22\/L=23\/L=24\/L=25\/L=26\/L=27\/L=28\/L=29\/L=30\/L=31\/L=32:=by omega
 have hd:d=3\/d=4\/d=5\/d=6\/d=7\/d=8\/d=9\/d=10:=by omega
 have fin:L*78913/262144+(if pw (L*78913/262144)<=(n:Int) then 1 else 0)=d:=by
  rcases hd with rfl|rfl|rfl|rfl|rfl|rfl|rfl|rfl<;>simp only[Nat.reduceSub,Nat.reducePow] at h3 h4
  all_goals
   rcases hL with rfl|rfl|rfl|rfl|rfl|rfl|rfl|rfl|rfl|rfl|rfl|rfl|rfl|rfl|rfl|rfl|rfl|rfl|rfl|rfl|rfl|rfl|rfl|rfl|rfl|rfl|rfl|rfl|rfl|rfl|rfl|rfl<;>simp only[Nat.reduceSub,Nat.reducePow] at q3 q4<;>first
    |(exfalso;omega;done)
    |(simp only[Nat.reduceMul,Nat.reduceDiv,show pw 2=100 from rfl,show pw 3=1000 from rfl,show pw 4=10000 from rfl,show pw 5=100000 from rfl,show pw 6=1000000 from rfl,show pw 7=10000000 from rfl,show pw 8=100000000 from rfl,show pw 9=1000000000 from rfl];split<;>omega)
 rw[fin]
def qo:Nat->Nat->List UInt8
 |0,_=>[]
 |f+1,n=>if n<10 then[yh (48+n)] else qo f (n/10)++[yh (48+n % 10)]
def dec(n:Nat):List UInt8:=qo 10 n
theorem zzG(n:Nat)(h1:100<=n)(h2:n<1000):dec n=[dgt n 100,dgt n 10,dgt n 1]:=by
 unfold dec
 rw[show qo 10 (n)=qo 9 (n/10)++[yh (48+n % 10)] from if_neg (by omega)]
 rw[show qo 9 (n/10)=qo 8 (n/10/10)++[yh (48+n/10 % 10)] from if_neg (by omega)]
 rw[show qo 8 (n/10/10)=[yh (48+n/10/10)] from if_pos (by omega)]
 simp only[yw,yo,List.cons.injEq,and_true]
 refine⟨?_,?_,?_⟩<;>exact xV (by omega)
theorem zzH(n:Nat)(h1:1000<=n)(h2:n<10000):dec n=[dgt n 1000,dgt n 100,dgt n 10,dgt n 1]:=by
 unfold dec
 rw[show qo 10 (n)=qo 9 (n/10)++[yh (48+n % 10)] from if_neg (by omega)]
 rw[show qo 9 (n/10)=qo 8 (n/10/10)++[yh (48+n/10 % 10)] from if_neg (by omega)]
 rw[show qo 8 (n/10/10)=qo 7 (n/10/10/10)++[yh (48+n/10/10 % 10)] from if_neg (by omega)]
 rw[show qo 7 (n/10/10/10)=[yh (48+n/10/10/10)] from if_pos (by omega)]
 simp only[yw,yo,List.cons.injEq,and_true]
 refine⟨?_,?_,?_,?_⟩<;>exact xV (by omega)
theorem zzI(n:Nat)(h1:10000<=n)(h2:n<100000):dec n=[dgt n 10000,dgt n 1000,dgt n 100,dgt n 10,dgt n 1]:=by
 unfold dec
 rw[show qo 10 (n)=qo 9 (n/10)++[yh (48+n % 10)] from if_neg (by omega)]
 rw[show qo 9 (n/10)=qo 8 (n/10/10)++[yh (48+n/10 % 10)] from if_neg (by omega)]
 rw[show qo 8 (n/10/10)=qo 7 (n/10/10/10)++[yh (48+n/10/10 % 10)] from if_neg (by omega)]
 rw[show qo 7 (n/10/10/10)=qo 6 (n/10/10/10/10)++[yh (48+n/10/10/10 % 10)] from if_neg (by omega)]
 rw[show qo 6 (n/10/10/10/10)=[yh (48+n/10/10/10/10)] from if_pos (by omega)]
 simp only[yw,yo,List.cons.injEq,and_true]
 refine⟨?_,?_,?_,?_,?_⟩<;>exact xV (by omega)
theorem zzJ(n:Nat)(h1:100000<=n)(h2:n<1000000):dec n=[dgt n 100000,dgt n 10000,dgt n 1000,dgt n 100,dgt n 10,dgt n 1]:=by
 unfold dec
 rw[show qo 10 (n)=qo 9 (n/10)++[yh (48+n % 10)] from if_neg (by omega)]
 rw[show qo 9 (n/10)=qo 8 (n/10/10)++[yh (48+n/10 % 10)] from if_neg (by omega)]
 rw[show qo 8 (n/10/10)=qo 7 (n/10/10/10)++[yh (48+n/10/10 % 10)] from if_neg (by omega)]
 rw[show qo 7 (n/10/10/10)=qo 6 (n/10/10/10/10)++[yh (48+n/10/10/10 % 10)] from if_neg (by omega)]
 rw[show qo 6 (n/10/10/10/10)=qo 5 (n/10/10/10/10/10)++[yh (48+n/10/10/10/10 % 10)] from if_neg (by omega)]
 rw[show qo 5 (n/10/10/10/10/10)=[yh (48+n/10/10/10/10/10)] from if_pos (by omega)]
 simp only[yw,yo,List.cons.injEq,and_true]
 refine⟨?_,?_,?_,?_,?_,?_⟩<;>exact xV (by omega)
theorem zzK(n:Nat)(h1:1000000<=n)(h2:n<10000000):dec n=[dgt n 1000000,dgt n 100000,dgt n 10000,dgt n 1000,dgt n 100,dgt n 10,dgt n 1]:=by
 unfold dec
 rw[show qo 10 (n)=qo 9 (n/10)++[yh (48+n % 10)] from if_neg (by omega)]
 rw[show qo 9 (n/10)=qo 8 (n/10/10)++[yh (48+n/10 % 10)] from if_neg (by omega)]
 rw[show qo 8 (n/10/10)=qo 7 (n/10/10/10)++[yh (48+n/10/10 % 10)] from if_neg (by omega)]
 rw[show qo 7 (n/10/10/10)=qo 6 (n/10/10/10/10)++[yh (48+n/10/10/10 % 10)] from if_neg (by omega)]
 rw[show qo 6 (n/10/10/10/10)=qo 5 (n/10/10/10/10/10)++[yh (48+n/10/10/10/10 % 10)] from if_neg (by omega)]
 rw[show qo 5 (n/10/10/10/10/10)=qo 4 (n/10/10/10/10/10/10)++[yh (48+n/10/10/10/10/10 % 10)] from if_neg (by omega)]
 rw[show qo 4 (n/10/10/10/10/10/10)=[yh (48+n/10/10/10/10/10/10)] from if_pos (by omega)]
 simp only[yw,yo,List.cons.injEq,and_true]
 refine⟨?_,?_,?_,?_,?_,?_,?_⟩<;>exact xV (by omega)
theorem zzL(n:Nat)(h1:10000000<=n)(h2:n<100000000):dec n=[dgt n 10000000,dgt n 1000000,dgt n 100000,dgt n 10000,dgt n 1000,dgt n 100,dgt n 10,dgt n 1]:=by
 unfold dec
 rw[show qo 10 (n)=qo 9 (n/10)++[yh (48+n % 10)] from if_neg (by omega)]
 rw[show qo 9 (n/10)=qo 8 (n/10/10)++[yh (48+n/10 % 10)] from if_neg (by omega)]
 rw[show qo 8 (n/10/10)=qo 7 (n/10/10/10)++[yh (48+n/10/10 % 10)] from if_neg (by omega)]
 rw[show qo 7 (n/10/10/10)=qo 6 (n/10/10/10/10)++[yh (48+n/10/10/10 % 10)] from if_neg (by omega)]
 rw[show qo 6 (n/10/10/10/10)=qo 5 (n/10/10/10/10/10)++[yh (48+n/10/10/10/10 % 10)] from if_neg (by omega)]
 rw[show qo 5 (n/10/10/10/10/10)=qo 4 (n/10/10/10/10/10/10)++[yh (48+n/10/10/10/10/10 % 10)] from if_neg (by omega)]
 rw[show qo 4 (n/10/10/10/10/10/10)=qo 3 (n/10/10/10/10/10/10/10)++[yh (48+n/10/10/10/10/10/10 % 10)] from if_neg (by omega)]
 rw[show qo 3 (n/10/10/10/10/10/10/10)=[yh (48+n/10/10/10/10/10/10/10)] from if_pos (by omega)]
 simp only[yw,yo,List.cons.injEq,and_true]
 refine⟨?_,?_,?_,?_,?_,?_,?_,?_⟩<;>exact xV (by omega)
theorem zzM(n:Nat)(h1:100000000<=n)(h2:n<1000000000):dec n=[dgt n 100000000,dgt n 10000000,dgt n 1000000,dgt n 100000,dgt n 10000,dgt n 1000,dgt n 100,dgt n 10,dgt n 1]:=by
 unfold dec
 rw[show qo 10 (n)=qo 9 (n/10)++[yh (48+n % 10)] from if_neg (by omega)]
 rw[show qo 9 (n/10)=qo 8 (n/10/10)++[yh (48+n/10 % 10)] from if_neg (by omega)]
 rw[show qo 8 (n/10/10)=qo 7 (n/10/10/10)++[yh (48+n/10/10 % 10)] from if_neg (by omega)]
 rw[show qo 7 (n/10/10/10)=qo 6 (n/10/10/10/10)++[yh (48+n/10/10/10 % 10)] from if_neg (by omega)]
 rw[show qo 6 (n/10/10/10/10)=qo 5 (n/10/10/10/10/10)++[yh (48+n/10/10/10/10 % 10)] from if_neg (by omega)]
 rw[show qo 5 (n/10/10/10/10/10)=qo 4 (n/10/10/10/10/10/10)++[yh (48+n/10/10/10/10/10 % 10)] from if_neg (by omega)]
 rw[show qo 4 (n/10/10/10/10/10/10)=qo 3 (n/10/10/10/10/10/10/10)++[yh (48+n/10/10/10/10/10/10 % 10)] from if_neg (by omega)]
 rw[show qo 3 (n/10/10/10/10/10/10/10)=qo 2 (n/10/10/10/10/10/10/10/10)++[yh (48+n/10/10/10/10/10/10/10 % 10)] from if_neg (by omega)]
 rw[show qo 2 (n/10/10/10/10/10/10/10/10)=[yh (48+n/10/10/10/10/10/10/10/10)] from if_pos (by omega)]
 simp only[yw,yo,List.cons.injEq,and_true]
 refine⟨?_,?_,?_,?_,?_,?_,?_,?_,?_⟩<;>exact xV (by omega)
theorem zw2(n:Nat)(h1:1000000000<=n)(h2:n<10000000000):dec n=[dgt n 1000000000,dgt n 100000000,dgt n 10000000,dgt n 1000000,dgt n 100000,dgt n 10000,dgt n 1000,dgt n 100,dgt n 10,dgt n 1]:=by
 unfold dec
 rw[show qo 10 (n)=qo 9 (n/10)++[yh (48+n % 10)] from if_neg (by omega)]
 rw[show qo 9 (n/10)=qo 8 (n/10/10)++[yh (48+n/10 % 10)] from if_neg (by omega)]
 rw[show qo 8 (n/10/10)=qo 7 (n/10/10/10)++[yh (48+n/10/10 % 10)] from if_neg (by omega)]
 rw[show qo 7 (n/10/10/10)=qo 6 (n/10/10/10/10)++[yh (48+n/10/10/10 % 10)] from if_neg (by omega)]
 rw[show qo 6 (n/10/10/10/10)=qo 5 (n/10/10/10/10/10)++[yh (48+n/10/10/10/10 % 10)] from if_neg (by omega)]
 rw[show qo 5 (n/10/10/10/10/10)=qo 4 (n/10/10/10/10/10/10)++[yh (48+n/10/10/10/10/10 % 10)] from if_neg (by omega)]
 rw[show qo 4 (n/10/10/10/10/10/10)=qo 3 (n/10/10/10/10/10/10/10)++[yh (48+n/10/10/10/10/10/10 % 10)] from if_neg (by omega)]
 rw[show qo 3 (n/10/10/10/10/10/10/10)=qo 2 (n/10/10/10/10/10/10/10/10)++[yh (48+n/10/10/10/10/10/10/10 % 10)] from if_neg (by omega)]
 rw[show qo 2 (n/10/10/10/10/10/10/10/10)=qo 1 (n/10/10/10/10/10/10/10/10/10)++[yh (48+n/10/10/10/10/10/10/10/10 % 10)] from if_neg (by omega)]
 rw[show qo 1 (n/10/10/10/10/10/10/10/10/10)=[yh (48+n/10/10/10/10/10/10/10/10/10)] from if_pos (by omega)]
 simp only[yw,yo,List.cons.injEq,and_true]
 refine⟨?_,?_,?_,?_,?_,?_,?_,?_,?_,?_⟩<;>exact xV (by omega)
theorem zqv(N:Nat){n:Nat}(h:n<100):kA N ((n:Nat):Int)=some (dec n,()):=by
 have key:((yR 100).all fun n=>decide (kA 0 ((n:Nat):Int)=some (dec n,())))=true:=by kernel_rfl
 rw[yM] at key
 exact of_decide_eq_true (key n (yO.2 h))
theorem ztR(N n:Nat)(hN:10<=N)(h:n<4294967296):zq N ((n:Nat):Int)=some (dec n,()):=by
 by_cases h0:n<100
 ·have c0:decide (((n:Nat):Int)<100)=true:=by simp;omega
  unfold zq
  simp only[ziG (show n<18446744073709551616 by omega),c0,cond_true]
  rw[wri (by omega) (by omega),zqv N h0];rfl
 ·rcases(show(100<=n/\n<1000)\/(1000<=n/\n<10000)\/(10000<=n/\n<100000)\/(100000<=n/\n<1000000)\/(1000000<=n/\n<10000000)\/(10000000<=n/\n<100000000)\/(100000000<=n/\n<1000000000)\/(1000000000<=n/\n<10000000000) by omega) with⟨h1,h2⟩|⟨h1,h2⟩|⟨h1,h2⟩|⟨h1,h2⟩|⟨h1,h2⟩|⟨h1,h2⟩|⟨h1,h2⟩|⟨h1,h2⟩
  ·rw[zzG n h1 h2];exact zzN N n hN h1 h2 h (zsW N n 3 (by omega) h (by omega) (by omega) h1 h2)
  ·rw[zzH n h1 h2];exact zzO N n hN h1 h2 h (zsW N n 4 (by omega) h (by omega) (by omega) h1 h2)
  ·rw[zzI n h1 h2];exact zzP N n hN h1 h2 h (zsW N n 5 (by omega) h (by omega) (by omega) h1 h2)
  ·rw[zzJ n h1 h2];exact zzQ N n hN h1 h2 h (zsW N n 6 (by omega) h (by omega) (by omega) h1 h2)
  ·rw[zzK n h1 h2];exact zzR N n hN h1 h2 h (zsW N n 7 (by omega) h (by omega) (by omega) h1 h2)
  ·rw[zzL n h1 h2];exact zzS N n hN h1 h2 h (zsW N n 8 (by omega) h (by omega) (by omega) h1 h2)
  ·rw[zzM n h1 h2];exact zzT N n hN h1 h2 h (zsW N n 9 (by omega) h (by omega) (by omega) h1 h2)
  ·rw[zw2 n h1 h2];exact zw4 N n hN h1 h2 h (zsW N n 10 (by omega) h (by omega) (by omega) h1 h2)
theorem zrd(N n:Nat)(hN:10<=N)(h:n<4294967296):zq N ((n:Nat):Int)=some (dec n,()):=by
 exact ztR N n hN h
theorem zmH:∀ f n,(qo f n).length<=f
 |0,n=>by simp [qo]
 |f+1,n=>by
  unfold qo
  split
  ·simp
  ·have:=zmH f (n/10);simp;omega
theorem zk3{k:Nat}(h:k<10):slice ([48,49,50,51,52,53,54,55,56,57]:List UInt8) k (k+1)=[yh (48+k)]:=by
 have key:((yR 10).all fun k=>slice ([48,49,50,51,52,53,54,55,56,57]:List UInt8) k (k+1)==[yh (48+k)])=true:=by kernel_rfl
 rw[yM] at key
 exact beq_iff_eq.1 (key k (yO.2 h))
theorem zwF(n:Nat):yi ((n:Nat):Int) 10=((n % 10:Nat):Int):=rfl
theorem zwC(n:Nat):yp ((n:Nat):Int) 10=((n/10:Nat):Int):=rfl
theorem zvT(N:Nat):∀ (f m n:Nat) (acc:List UInt8),n<10 ^ f->n<4294967296->0<f->f<=m->acc.length+f<=1000->∃ (x:Nat) (ys:List UInt8),qp N m ((n:Nat):Int) acc=some (((x:Nat):Int),ys)/\x<10/\yh (48+x)::ys=qo f n++acc/\ys.length<=1000
 |0,m,n,acc,h,h',h0,hm,hl=>by omega
 |f+1,0,n,acc,h,h',h0,hm,hl=>by omega
 |f+1,m+1,n,acc,h,h',h0,hm,hl=>by
  unfold qp xM
  by_cases hn:n<10
  ·have c:decide ((10:Int)<=((n:Nat):Int))=false:=by simp;omega
   simp only[c,cond_false]
   exact⟨n,acc,rfl,hn,by unfold qo;rw[if_pos hn];rfl,by omega⟩
  ·have c:decide ((10:Int)<=((n:Nat):Int))=true:=by simp;omega
   have hk:n % 10<10:=by omega
   have hb:=qn (a:=n % 10) (b:=n % 10+1) (n:=10) (by omega) (by omega)
   simp (disch:=omega) only[c,cond_true,zwF,zwC,zgH,zog,hb,yf,zk3]
   have c2:decide (yb [yh (48+n % 10)]+yb acc<4611686018427387904)=true:=by simp;omega
   simp only[c2,cond_true]
   have hpos:0<f:=by
    cases f with
    |zero=>simp at h;omega
    |succ f=>omega
   have hlt:n/10<10 ^ f:=by rw[ve] at h;omega
   obtain⟨x,ys,q1,q2,q3,q4⟩:=zvT N f m (n/10) ([yh (48+n % 10)]++acc) hlt (by omega) hpos (by omega) (by simp;omega)
   exact⟨x,ys,q1,q2,by
                rw[q3];conv=>rhs;unfold qo;rw[if_neg hn]
                simp,q4⟩
theorem ztK(N n:Nat)(hN:10<=N)(h:n<4294967296):km N ((n:Nat):Int)=some (dec n,()):=by
 obtain⟨x,ys,q1,q2,q3,q4⟩:=zvT N 10 N n [] (by omega) h (by omega) (by omega) (by simp)
 unfold km
 have hb:=qn (a:=x) (b:=x+1) (n:=10) (by omega) (by omega)
 simp (disch:=omega) only[q1,ye,zgH,zog,hb,cond_true,yf,zk3]
 have c2:decide (yb [yh (48+x)]+yb ys<4611686018427387904)=true:=by simp;omega
 rw[yQ] at q3
 simp only[c2,cond_true,yw,yo,q3];rfl
def zjR:Nat->List UInt8->Option Nat
 |acc,[]=>some acc
 |acc,c::r=>if 48<=c.toNat/\c.toNat<=57 then zjR (acc*10+(c.toNat-48)) r else none
theorem zqR:∀ (l:List UInt8) (acc v:Nat),zjR acc l=some v->acc<=v
 | [],acc,v,h=>by cases h;omega
 |c::r,acc,v,h=>by
  unfold zjR at h
  split at h
  ·have:=zqR r _ v h;omega
  ·cases h
theorem zqS:∀ (l:List UInt8) (acc v k:Nat),zjR acc l=some v->acc<10 ^ k->v<10 ^ (k+l.length)
 | [],acc,v,k,h,hk=>by cases h;simpa using hk
 |c::r,acc,v,k,h,hk=>by
  unfold zjR at h
  split at h
  ·have:=zqS r _ v (k+1) h (by rw[ve];omega)
   rwa [yP,show k+(r.length+1)=k+1+r.length by omega]
  ·cases h
theorem zum(M:Nat)(hM:M<1844674407370955162):∀ (l:List UInt8) (acc v:Nat),acc<=M->zjR acc l=some v->v<=M->Go.Lib.parseUintM M acc l=.ok v
 | [],acc,v,ha,h,hv=>by cases h;rfl
 |c::r,acc,v,ha,h,hv=>by
  unfold zjR at h
  split at h
  ·rename_i hc
   have:=zqR r _ v h
   unfold Go.Lib.parseUintM
   rw[if_pos hc,if_neg (by omega),if_neg (by omega)]
   exact zum M hM r _ v (by omega) h hv
  ·cases h
theorem zs0(M:Nat):∀ (l:List UInt8) (acc v:Nat),acc<=M->Go.Lib.parseUintM M acc l=.ok v->zjR acc l=some v/\v<=M
 | [],acc,v,ha,h=>by cases h;exact⟨rfl,ha⟩
 |c::r,acc,v,ha,h=>by
  unfold Go.Lib.parseUintM at h
  split at h
  ·rename_i hc
   split at h
   ·cases h
   ·split at h
    ·cases h
    ·unfold zjR
     rw[if_pos hc]
     exact zs0 M r _ v (by omega) h
  ·cases h
def zc6(s:List UInt8):Option Nat:=match zjR 0 s with
 |some v=>if v<=4294967295/\dec v=s then some v else none
 |none=>none
def zpD(s:List UInt8):Option (Int×Bool×Unit):=some (match zc6 s with
 |some v=>(((v:Nat):Int),true,())
 |none=>(0,false,()))
theorem zjo{s:List UInt8}{v:Nat}(h:zc6 s=some v):v<=4294967295:=by
 unfold zc6 at h
 split at h
 ·split at h
  ·rename_i hc;cases h;exact hc.1
  ·cases h
 ·cases h
theorem ztJ(n:Nat):(dec n).length<=10:=zmH 10 n
theorem zmW{s:List UInt8}{v:Nat}(h:zc6 s=some v):s.length<=10:=by
 unfold zc6 at h
 split at h
 ·split at h
  ·rename_i hc;rw[<- hc.2];exact ztJ _
  ·cases h
 ·cases h
theorem zjp(N:Nat)(hN:10<=N)(s:List UInt8)(hs:s.length<=100000):wi N s=zpD s:=by
 unfold wi zpD
 have hb:yS (yb s) znE=true:=by rw[Nat.ble_eq];unfold znE;omega
 simp only[hb,cond_true]
 have bad:zc6 s=none->some ((0:Int),false,())=some (match zc6 s with
  |some v=>(((v:Nat):Int),true,())
  |none=>(0,false,())):=fun h=>by rw[h]
 rcases hp:Go.Lib.parseUintB 32 s with u|_|_
 ·unfold Go.Lib.parseUintB at hp
  split at hp
  ·cases hp
  ·obtain⟨h1,h2⟩:=zs0 _ s 0 u (by omega) hp
   have h2:u<=4294967295:=h2
   simp only[zpM]
   rw[zog (by omega),zrd N u hN (by omega)]
   simp only[ye]
   unfold zc6
   simp only[h1]
   cases hd:dec u != s with
   |true=>
    have hd':¬ dec u=s:=by simpa using hd
    rw[if_neg (fun h=>hd' h.2)];rfl
   |false=>
    have hd':dec u=s:=by simpa using hd
    rw[if_pos ⟨h2,hd'⟩];rfl
 ·refine bad ?_
  unfold zc6
  split
  ·rename_i v hv
   rw[if_neg]
   intro⟨h1,h2⟩
   unfold Go.Lib.parseUintB at hp
   split at hp
   ·rename_i he
    subst he
    have:(dec v).length=0:=by rw[h2];rfl
    unfold dec qo at this
    split at this<;>simp at this
   ·rw[zum _ (by decide) s 0 v (by omega) hv h1] at hp;cases hp
  ·rfl
 ·refine bad ?_
  unfold zc6
  split
  ·rename_i v hv
   rw[if_neg]
   intro⟨h1,h2⟩
   unfold Go.Lib.parseUintB at hp
   split at hp
   ·cases hp
   ·rw[zum _ (by decide) s 0 v (by omega) hv h1] at hp;cases hp
  ·rfl
theorem zz8(c:UInt8):decide (c<(48:UInt8))=decide (c.toNat<48):=by
 rw[decide_eq_decide];exact vd
theorem zz4(c:UInt8):decide ((57:UInt8)<c)=decide (57<c.toNat):=by
 rw[decide_eq_decide];exact vd
theorem zxo{c:UInt8}(h:48<=c.toNat):(c-48).toNat=c.toNat-48:=by
 have:=c.toNat_lt
 rw[UInt8.toNat_sub]
 show(256-48+c.toNat) % 256=_
 omega
theorem zvX(N:Nat)(s:List UInt8)(hs:s.length<=10):∀ (m i v:Nat),i<=s.length->v<10 ^ i->s.length<m+i ->
  qH N m s ((v:Nat):Int) ((i:Nat):Int)=match zjR v (s.drop i) with
   |some w=>some (Sum.inr (s,((w:Nat):Int)))
   |none=>some (Sum.inl ())
 |0,i,v,h,hv,h'=>by omega
 |m+1,i,v,h,hv,h'=>by
  unfold qH zaw
  by_cases hi:i<s.length
  ·simp only[zhN hi,cond_true,zZ hi,yf,jr (u:=.u8) hi,zz8,zz4,drop_one hi,zjR]
   have hlt:=s[i].toNat_lt
   by_cases h1:s[i].toNat<48
   ·simp only[decide_eq_true h1,cond_true]
    rw[if_neg (by omega)]
   ·simp only[decide_eq_false h1,cond_false]
    by_cases h2:57<s[i].toNat
    ·simp only[decide_eq_true h2,cond_true]
     rw[if_neg (by omega)]
    ·simp only[decide_eq_false h2,cond_false]
     rw[if_pos ⟨by omega,by omega⟩,zxo (by omega)]
     have hp:10 ^ i<=10 ^ 9:=vh (by omega) (by omega)
     have hp2:(10:Nat) ^ (i+1)=10 ^ i*10:=ve ..
     have e1:ya .u64 ((ya .u64 ((10:Int)*((v:Nat):Int)))+(ya .u64 (((s[i].toNat-48:Nat)):Int)))=((v*10+(s[i].toNat-48):Nat):Int):=by
      rw[show(10:Int)*((v:Nat):Int)=((10*v:Nat):Int) from rfl,ziG (by omega),ziG (n:=s[i].toNat-48) (by omega),show((10*v:Nat):Int)+((s[i].toNat-48:Nat):Int)=((10*v+(s[i].toNat-48):Nat):Int) from rfl,ziG (by omega)]
      omega
     rw[e1,wri (by omega) (by omega),zgH]
     exact zvX N s hs m (i+1) _ (by omega) (by omega) (by omega)
  ·simp only[zhM hi,cond_false]
   rw[yy (by omega)]
   rfl
theorem zl1(N:Nat)(hN:20<=N)(s:List UInt8):jQ N s=zpD s:=by
 unfold jQ zpD
 by_cases hl:s.length<=10
 ·have c:decide ((10:Int)<((s.length:Nat):Int))=false:=by simp;omega
  have h:=zvX N s hl N 0 0 (by omega) (by simp) (by omega)
  rw[show((0:Nat):Int)=(0:Int) from rfl,yD] at h
  simp only[c,cond_false,h]
  unfold zc6
  cases hv:zjR 0 s with
  |none=>rfl
  |some v=>
   simp only[ye,zi]
   have hlt:=zqS s 0 v 0 hv (by simp)
   have hp:10 ^ (0+s.length)<=10 ^ 10:=vh (by omega) (by omega)
   by_cases h1:v<=4294967295
   ·have c1:decide ((4294967295:Int)<((v:Nat):Int))=false:=by simp;omega
    simp only[c1,cond_false]
    rw[zog (by omega),ztK N v (by omega) (by omega)]
    simp only[ye]
    cases hd:dec v != s with
    |true=>
     have hd':¬ dec v=s:=by simpa using hd
     rw[if_neg (fun h=>hd' h.2)];rfl
    |false=>
     have hd':dec v=s:=by simpa using hd
     rw[if_pos ⟨h1,hd'⟩];rfl
   ·have c1:decide ((4294967295:Int)<((v:Nat):Int))=true:=by simp;omega
    simp only[c1,cond_true]
    rw[if_neg (fun h=>h1 h.1)]
 ·have c:decide ((10:Int)<((s.length:Nat):Int))=true:=by simp;omega
  simp only[c,cond_true]
  cases hv:zc6 s with
  |none=>rfl
  |some v=>exact absurd (zmW hv) hl
def posOf(c:UInt8):List UInt8->Option Nat
 | []=>none
 |x::l=>if x==c then some 0 else match posOf c l with
  |some i=>some (i+1)
  |none=>none
theorem zgU(c:UInt8):∀ (l:List UInt8) (k:Nat),jI c l k=match posOf c l with
  |some i=>((k+i:Nat):Int)
  |none=>-1
 | [],k=>rfl
 |x::l,k=>by
  unfold posOf
  simp only[jI]
  cases x==c with
  |true=>simp
  |false=>
   simp only[yC,if_false]
   rw[zgU c l (k+1)]
   cases posOf c l with
   |none=>rfl
   |some i=>simp only;congr 1;omega
theorem jx{c:UInt8}:∀ {l:List UInt8} {i:Nat},posOf c l=some i->i<l.length/\l[i]?=some c/\∀ j:Nat,j<i->l[j]? ≠ some c
 | [],i,h=>by cases h
 |x::l,i,h=>by
  unfold posOf at h
  cases hx:x==c with
  |true=>
   simp only[hx,if_true] at h
   cases h
   rw[beq_iff_eq] at hx
   subst hx
   exact⟨by simp,rfl,fun j hj=>by omega⟩
  |false=>
   have hx':¬ x=c:=by simpa using hx
   simp only[hx,yC,if_false] at h
   split at h
   ·rename_i i' hi
    cases h
    obtain⟨h1,h2,h3⟩:=jx hi
    refine⟨by simpa using h1,by simpa using h2,fun j hj=>?_⟩
    cases j with
    |zero=>simpa using hx'
    |succ j=>simpa using h3 j (by omega)
   ·cases h
theorem zio{c:UInt8}:∀ {l:List UInt8},posOf c l=none->∀ j:Nat,l[j]? ≠ some c
 | [],h,j=>by simp
 |x::l,h,j=>by
  unfold posOf at h
  cases hx:x==c with
  |true=>simp only[hx,if_true] at h;cases h
  |false=>
   have hx':¬ x=c:=by simpa using hx
   simp only[hx,yC,if_false] at h
   split at h
   ·cases h
   ·rename_i hn
    cases j with
    |zero=>simpa using hx'
    |succ j=>simpa using zio hn j
theorem kD{α:Type}(l:List α)(a:Nat):ze l a=l.drop a:=by
 unfold ze;rw[yf];exact zap
theorem xI{α:Type}{a:Nat}{l:List α}(h:a<=l.length):z8 ((a:Nat):Int) l=true:=qn h (yB _)
theorem ziM(N:Nat)(l:List UInt8)(h:l.length<=100000):zO N l=some (l,()):=by
 unfold zO
 rw[xH (by omega)];rfl
def zsR(b:List UInt8)(i:Nat):Option ((List UInt8)×Int×Bool×Unit):=match posOf 125 (b.drop (i+1)) with
 |none=>some ([],0,false,())
 |some k=>match zc6 (slice b (i+1) (i+1+k)) with
  |none=>some ([],0,false,())
  |some n=>if n<=65536/\b[i+1+k+1]?=some 13/\b[i+1+k+2]?=some 10/\i+1+k+3+n<=b.length then some (slice b (i+1+k+3) (i+1+k+3+n),((i+1+k+3+n:Nat):Int),true,()) else some ([],0,false,())
theorem qQ{α:Type}{l:List α}{a b:Nat}:(slice l a b).length<=l.length:=by
 unfold slice;rw[yH,yk];omega
theorem zpi(N:Nat)(b:List UInt8)(hb:b.length<=100000)(hN:10<=N)(i:Nat)(hi:i<b.length)(hc:b[i]=123):qM N b (i:Int)=zsR b i:=by
 unfold qM zsR js
 have d0:decide ((i:Int)<0)=false:=by simp
 have d1:decide (((b.length:Nat):Int)<=(i:Int))=false:=by simp;omega
 have w1:ya .i64 ((i:Int)+1)=((i+1:Nat):Int):=by rw[wri (by omega) (by omega)];omega
 have w2:ya .i64 (((i+1:Nat):Int)-1)=(i:Int):=by rw[wri (by omega) (by omega)];omega
 have hbe:z8 ((i+1:Nat):Int) b=true:=xI (by omega)
 simp only[d0,d1,cond_false,w1,w2,zZ hi,cond_true,yf,jr (u:=.u8) hi,hc,show((123:UInt8)==123)=true from rfl,yn,hbe,yv,kD,zgU,ye]
 cases hp:posOf 125 (b.drop (i+1)) with
 |none=>simp only[show decide ((-1:Int)<0)=true from rfl,cond_true]
 |some k=>
  obtain⟨q1,q2,q3⟩:=jx hp
  rw[yk] at q1
  have w3:ya .i64 (((k:Nat):Int)+1)=((k+1:Nat):Int):=by rw[wri (by omega) (by omega)];omega
  have w4:ya .i64 (((i+1:Nat):Int)+((k:Nat):Int))=((i+1+k:Nat):Int):=by rw[wri (by omega) (by omega)];omega
  have w5:ya .i64 (((i+1:Nat):Int)+((k+1:Nat):Int))=((i+1+k+1:Nat):Int):=by rw[wri (by omega) (by omega)];omega
  have d2:decide (((k:Nat):Int)<0)=false:=by simp
  have hb2:qZ ((i+1:Nat):Int) ((i+1+k:Nat):Int) b.length=true:=qn (by omega) (by omega)
  simp only[yU,d2,cond_false,w3,w4,w5,hb2,cond_true,yf]
  rw[zjp N hN _ (yV qQ (by omega))]
  unfold zpD
  have hj:i+1+k<b.length:=by omega
  generalize i+1+k=j at hj |-
  simp only[ye]
  cases hn:zc6 (slice b (i+1) j) with
  |none=>rfl
  |some n=>
   have hn2:=zjo hn
   simp only[yn,cond_false]
   by_cases c1:n<=65536
   ·have e1:decide ((65536:Int)<((n:Nat):Int))=false:=by simp;omega
    have d3:decide (((j+1:Nat):Int)<0)=false:=by simp;omega
    simp only[e1,cond_false,d3]
    by_cases c2:j+1<b.length
    ·have e2:decide (((b.length:Nat):Int)<=((j+1:Nat):Int))=false:=by simp;omega
     have w6:ya .i64 (((j+1:Nat):Int)+1)=((j+2:Nat):Int):=by rw[wri (by omega) (by omega)];omega
     have w7:ya .i64 (((j+2:Nat):Int)-1)=((j+1:Nat):Int):=by rw[wri (by omega) (by omega)];omega
     have d4:decide (((j+2:Nat):Int)<0)=false:=by simp;omega
     simp only[e2,cond_false,w6,w7,zZ c2,cond_true,yf,jr (u:=.u8) c2,yg c2,Option.some.injEq,d4]
     cases h13:b[j+1]==(13:UInt8) with
     |false=>
      have h13':¬ b[j+1]=13:=by simpa using h13
      simp only[yx,cond_true]
      rw[if_neg (fun h=>h13' h.2.1)]
     |true=>
      have h13':b[j+1]=13:=by simpa using h13
      simp only[yn,cond_false,h13',true_and]
      by_cases c3:j+2<b.length
      ·have e3:decide (((b.length:Nat):Int)<=((j+2:Nat):Int))=false:=by simp;omega
       have w8:ya .i64 (((j+2:Nat):Int)+1)=((j+3:Nat):Int):=by rw[wri (by omega) (by omega)];omega
       have w9:ya .i64 (((j+3:Nat):Int)-1)=((j+2:Nat):Int):=by rw[wri (by omega) (by omega)];omega
       have w10:ya .i64 ((n:Nat):Int)=((n:Nat):Int):=wri (by omega) (by omega)
       have w11:ya .i64 (((j+3:Nat):Int)+((n:Nat):Int))=((j+3+n:Nat):Int):=by rw[wri (by omega) (by omega)];omega
       have w12:ya .i64 (((b.length:Nat):Int)-((j+3:Nat):Int))=((b.length:Nat):Int)-((j+3:Nat):Int):=wri (by omega) (by omega)
       simp only[e3,cond_false,w8,w9,zZ c3,cond_true,yf,jr (u:=.u8) c3,yg c3,Option.some.injEq,w10,w11,w12]
       cases h10:b[j+2]==(10:UInt8) with
       |false=>
        have h10':¬ b[j+2]=10:=by simpa using h10
        simp only[yx,cond_true]
        rw[if_neg (fun h=>h10' h.2.1)]
       |true=>
        have h10':b[j+2]=10:=by simpa using h10
        simp only[yn,cond_false,h10',true_and]
        by_cases c4:j+3+n<=b.length
        ·have e4:decide (((b.length:Nat):Int)-((j+3:Nat):Int)<((n:Nat):Int))=false:=by simp only[decide_eq_false_iff_not];omega
         have hb3:qZ ((j+3:Nat):Int) ((j+3+n:Nat):Int) b.length=true:=qn (by omega) (by omega)
         simp only[e4,cond_false,hb3,cond_true]
         rw[ziM N _ (yV qQ (by omega)),if_pos ⟨c1,c4⟩];rfl
        ·have e4:decide (((b.length:Nat):Int)-((j+3:Nat):Int)<((n:Nat):Int))=true:=by simp only[decide_eq_true_eq];omega
         simp only[e4,cond_true]
         rw[if_neg (fun h=>c4 h.2)]
      ·have e3:decide (((b.length:Nat):Int)<=((j+2:Nat):Int))=true:=by simp;omega
       have n3:b[j+2]?=none:=yK (by omega)
       simp only[e3,cond_true,n3]
       rw[if_neg (fun h=>by cases h.2.1)]
    ·have e2:decide (((b.length:Nat):Int)<=((j+1:Nat):Int))=true:=by simp;omega
     have n2:b[j+1]?=none:=yK (by omega)
     simp only[e2,cond_true,n2]
     rw[if_neg (fun h=>by cases h.2.1)]
   ·have e1:decide ((65536:Int)<((n:Nat):Int))=true:=by simp;omega
    simp only[e1,cond_true]
    rw[if_neg (fun h=>c1 h.1)]
theorem zvW(N:Nat)(b:List UInt8)(hb:b.length<=100000)(i:Nat):∀ (m p:Nat),i<p->p<=i+13->p<=b.length->b.length<m+p ->
  ∃ r:Nat,p<=r/\r<=b.length/\zX N m b ((i:Nat):Int) ((p:Nat):Int)=some (b,((i:Nat):Int),((r:Nat):Int))/\(∀ q,p<=q->q<r->b[q]? ≠ some 125)/\(r=b.length\/b[r]?=some 125\/r=i+13)
 |0,p,h1,h2,h3,h4=>by omega
 |m+1,p,h1,h2,h3,h4=>by
  unfold zX ka
  by_cases hi:p<b.length
  ·simp only[zhN hi,cond_true,zZ hi,yf,jr (u:=.u8) hi]
   cases hc:b[p] != (125:UInt8) with
   |false=>
    have hc':b[p]=125:=by simpa using hc
    simp only[cond_false]
    exact⟨p,yB _,by omega,rfl,fun q h5 h6=>by omega,.inr (.inl (by rw[yg hi,hc']))⟩
   |true=>
    have hc':¬ b[p]=125:=by simpa using hc
    have w:ya .i64 (((p:Nat):Int)-((i:Nat):Int))=((p:Nat):Int)-((i:Nat):Int):=wri (by omega) (by omega)
    simp only[cond_true,w]
    by_cases hp:p<=i+12
    ·have e:decide (((p:Nat):Int)-((i:Nat):Int)<=12)=true:=by simp only[decide_eq_true_eq];omega
     have w1:ya .i64 (((p:Nat):Int)+1)=((p+1:Nat):Int):=by rw[wri (by omega) (by omega)];omega
     simp only[e,cond_true,w1]
     obtain⟨r,q1,q2,q3,q4,q5⟩:=zvW N b hb i m (p+1) (by omega) (by omega) (by omega) (by omega)
     refine⟨r,by omega,q2,q3,fun q h5 h6=>?_,q5⟩
     by_cases hq:q=p
     ·subst hq;rw[yg hi];simpa using hc'
     ·exact q4 q (by omega) h6
    ·have e:decide (((p:Nat):Int)-((i:Nat):Int)<=12)=false:=by simp only[decide_eq_false_iff_not];omega
     simp only[e,cond_false]
     exact⟨p,yB _,by omega,rfl,fun q h5 h6=>by omega,.inr (.inr (by omega))⟩
  ·simp only[zhM hi,cond_false]
   exact⟨p,yB _,by omega,rfl,fun q h5 h6=>by omega,.inl (by omega)⟩
theorem zrr(N:Nat)(b:List UInt8)(hb:b.length<=100000)(hN:20<=N)(hN2:b.length<N)(i:Nat)(hi:i<b.length)(hc:b[i]=123):qN N b (i:Int)=zsR b i:=by
 unfold qN zsR
 have d0:decide ((i:Int)<0)=false:=by simp
 have d1:decide (((b.length:Nat):Int)<=(i:Int))=false:=by simp;omega
 have w1:ya .i64 ((i:Int)+1)=((i+1:Nat):Int):=by rw[wri (by omega) (by omega)];omega
 obtain⟨r,q1,q2,q3,q4,q5⟩:=zvW N b hb i N (i+1) (by omega) (by omega) (by omega) (by omega)
 simp only[d0,d1,cond_false,w1,zZ hi,cond_true,yf,jr (u:=.u8) hi,hc,show((123:UInt8) != 123)=false from rfl,q3,ye]
 have bad:(∀ k,posOf 125 (b.drop (i+1))=some k->12<k)->(match posOf 125 (b.drop (i+1)) with
   |none=>some (([]:List UInt8),(0:Int),false,())
   |some k=>match zc6 (slice b (i+1) (i+1+k)) with
    |none=>some ([],0,false,())
    |some n=>if n<=65536/\b[i+1+k+1]?=some 13/\b[i+1+k+2]?=some 10/\i+1+k+3+n<=b.length then some (slice b (i+1+k+3) (i+1+k+3+n),((i+1+k+3+n:Nat):Int),true,()) else some ([],0,false,()))=some ([],0,false,()):=by
  intro h
  split
  ·rfl
  ·rename_i k hk
   have h12:=h k hk
   obtain⟨s1,s2,s3⟩:=jx hk
   rw[yk] at s1
   split
   ·rfl
   ·rename_i n hn
    have:=zmW hn
    unfold slice at this
    rw[yH,yk] at this
    omega
 by_cases hr:r=b.length
 ·have e:decide (((b.length:Nat):Int)<=((r:Nat):Int))=true:=by simp;omega
  simp only[e,cond_true]
  refine(bad fun k hk=>?_).symm
  obtain⟨s1,s2,s3⟩:=jx hk
  rw[yk] at s1
  rw[yJ] at s2
  exact absurd s2 (q4 (i+1+k) (by omega) (by omega))
 ·have e:decide (((b.length:Nat):Int)<=((r:Nat):Int))=false:=by simp;omega
  have hlt:r<b.length:=by omega
  simp only[e,cond_false,zZ hlt,cond_true,jr (u:=.u8) hlt]
  cases h125:b[r] != (125:UInt8) with
  |true=>
   have h125':¬ b[r]=125:=by simpa using h125
   simp only[cond_true]
   have hr13:r=i+13:=by
    rcases q5 with h|h|h
    ·omega
    ·rw[yg hlt] at h;exact absurd (Option.some.inj h) h125'
    ·exact h
   refine(bad fun k hk=>?_).symm
   obtain⟨s1,s2,s3⟩:=jx hk
   rw[yk] at s1
   rw[yJ] at s2
   by_cases hk2:12<k
   ·exact hk2
   ·by_cases hk3:i+1+k=r
    ·rw[hk3,yg hlt] at s2
     exact absurd (Option.some.inj s2) h125'
    ·exact absurd s2 (q4 (i+1+k) (by omega) (by omega))
  |false=>
   have h125':b[r]=125:=by simpa using h125
   obtain⟨k,hk⟩:∃ k,r=i+1+k:=⟨r-(i+1),by omega⟩
   have hpos:posOf 125 (b.drop (i+1))=some k:=by
    cases hp:posOf 125 (b.drop (i+1)) with
    |none=>
     have:=zio hp k
     rw[yJ,<- hk,yg hlt,h125'] at this
     exact absurd rfl this
    |some k'=>
     obtain⟨s1,s2,s3⟩:=jx hp
     rw[yk] at s1
     rw[yJ] at s2
     by_cases h1:k'<k
     ·exact absurd s2 (q4 (i+1+k') (by omega) (by omega))
     ·by_cases h2:k<k'
      ·have:=s3 k h2
       rw[yJ,<- hk,yg hlt,h125'] at this
       exact absurd rfl this
      ·rw[show k'=k by omega]
   simp only[hpos]
   rw[<- hk]
   have hb2:qZ ((i+1:Nat):Int) ((r:Nat):Int) b.length=true:=qn (by omega) (by omega)
   simp only[cond_false,hb2,yv,cond_true]
   rw[zl1 N hN]
   unfold zpD
   simp only[ye]
   clear bad q5 q4 q3 hpos
   cases hn:zc6 (slice b (i+1) r) with
   |none=>rfl
   |some n=>
    have hn2:=zjo hn
    have w3:ya .i64 (((r:Nat):Int)+3)=((r+3:Nat):Int):=by rw[wri (by omega) (by omega)];omega
    have w4:ya .i64 (((r:Nat):Int)+1)=((r+1:Nat):Int):=by rw[wri (by omega) (by omega)];omega
    have w5:ya .i64 (((r:Nat):Int)+2)=((r+2:Nat):Int):=by rw[wri (by omega) (by omega)];omega
    have w10:ya .i64 ((n:Nat):Int)=((n:Nat):Int):=wri (by omega) (by omega)
    have w11:ya .i64 (((r+3:Nat):Int)+((n:Nat):Int))=((r+3+n:Nat):Int):=by rw[wri (by omega) (by omega)];omega
    have w12:ya .i64 (((b.length:Nat):Int)-((r+3:Nat):Int))=((b.length:Nat):Int)-((r+3:Nat):Int):=wri (by omega) (by omega)
    simp only[yn,cond_false,w3,w4,w5,w10,w11,w12]
    by_cases c1:n<=65536
    ·have e1:decide ((65536:Int)<((n:Nat):Int))=false:=by simp;omega
     simp only[e1,cond_false]
     by_cases c2:r+3<=b.length
     ·have e2:decide (((b.length:Nat):Int)<((r+3:Nat):Int))=false:=by simp;omega
      have l1:r+1<b.length:=by omega
      have l2:r+2<b.length:=by omega
      simp only[e2,cond_false,zZ l1,zZ l2,cond_true,yf,jr (u:=.u8) l1,jr (u:=.u8) l2,yg l1,yg l2,Option.some.injEq]
      cases h13:b[r+1] != (13:UInt8) with
      |true=>
       have h13':¬ b[r+1]=13:=by simpa using h13
       simp only[cond_true]
       rw[if_neg (fun h=>h13' h.2.1)]
      |false=>
       have h13':b[r+1]=13:=by simpa using h13
       simp only[cond_false,h13',true_and]
       cases h10:b[r+2] != (10:UInt8) with
       |true=>
        have h10':¬ b[r+2]=10:=by simpa using h10
        simp only[cond_true]
        rw[if_neg (fun h=>h10' h.2.1)]
       |false=>
        have h10':b[r+2]=10:=by simpa using h10
        simp only[cond_false,h10',true_and]
        by_cases c4:r+3+n<=b.length
        ·have e4:decide (((b.length:Nat):Int)-((r+3:Nat):Int)<((n:Nat):Int))=false:=by simp only[decide_eq_false_iff_not];omega
         have hb3:qZ ((r+3:Nat):Int) ((r+3+n:Nat):Int) b.length=true:=qn (by omega) (by omega)
         have hsl:(slice b (r+3) (r+3+n)).length<=b.length:=qQ
         simp only[e4,cond_false,hb3,cond_true,xH (show 0+(slice b (r+3) (r+3+n)).length<=200000 by omega),yo]
         rw[if_pos ⟨c1,c4⟩]
        ·have e4:decide (((b.length:Nat):Int)-((r+3:Nat):Int)<((n:Nat):Int))=true:=by simp only[decide_eq_true_eq];omega
         simp only[e4,cond_true]
         rw[if_neg (fun h=>c4 h.2)]
     ·have e2:decide (((b.length:Nat):Int)<((r+3:Nat):Int))=true:=by simp;omega
      simp only[e2,cond_true]
      rw[if_neg (fun h=>c2 (by omega))]
    ·have e1:decide ((65536:Int)<((n:Nat):Int))=true:=by simp;omega
     simp only[e1,cond_true]
     rw[if_neg (fun h=>c1 h.1)]
theorem zrq(N:Nat)(b:List UInt8)(hb:b.length<=20000)(hN:10<=N)(i:Nat)(hi:i<b.length)(hc:b[i]=123):qM N b (i:Int)=zsR b i:=zpi N b (by omega) hN i hi hc
theorem zt3(N:Nat)(b:List UInt8)(hb:b.length<=20000)(hN:20<=N)(hN2:b.length<N)(i:Nat)(hi:i<b.length)(hc:b[i]=123):qN N b (i:Int)=zsR b i:=zrr N b (by omega) hN hN2 i hi hc
def ze6:List UInt8->Option Nat
 | []=>none
 |a::r=>if a=13/\r.head?=some 10 then some 0 else(ze6 r).map (· + 1)
theorem zlu:∀ {l:List UInt8} {e:Nat},ze6 l=some e->e+1<l.length
 | [],e,h=>by cases h
 |a::r,e,h=>by
  unfold ze6 at h
  split at h
  ·rename_i hc
   cases h
   cases r with
   |nil=>simp at hc
   |cons c r=>simp
  ·cases hr:ze6 r with
   |none=>rw[hr] at h;cases h
   |some k=>
    rw[hr] at h
    have:=zlu hr
    cases h
    simp;omega
theorem zkh:∀ (l:List UInt8),Go.Lib.index l [13,10]=match ze6 l with|some e=>(e:Int)|none=>-1
 | []=>rfl
 |a::r=>by
  unfold Go.Lib.index ze6
  have ih:=zkh r
  have hp:([13,10]:List UInt8).isPrefixOf (a::r)=decide (a=13/\r.head?=some 10):=by
   cases r with
   |nil=>simp [vm]
   |cons c r=>
    simp only[vm,yv,List.head?_cons,Option.some.injEq]
    by_cases h1:a=13
    ·by_cases h2:c=10
     ·subst h1;subst h2;rfl
     ·subst h1;simp [h2,beq_eq_false_iff_ne,Ne.symm h2]
    ·simp [h1,Ne.symm h1]
  rw[hp]
  by_cases hc:a=13/\r.head?=some 10
  ·simp [hc]
  ·rw[decide_eq_false hc,if_neg hc,if_neg (by simp),ih]
   cases ze6 r with
   |none=>rfl
   |some k=>
    simp only[yW]
    have:((k:Int) == -1)=false:=by simp
    rw[this];simp
theorem zsL(N:Nat){b:List UInt8}(hb:b.length<=1000000):∀ (m i:Nat),i<=b.length->b.length<m+i->jR N m b (i:Int)=some (match ze6 (b.drop i) with|some e=>.inl ((i+e:Nat):Int)|none=>.inr ())
 |0,i,h,h'=>by omega
 |m+1,i,h,h'=>by
  unfold jR zcu
  rw[wri (by omega) (by omega),show((i:Int)+1)=((i+1:Nat):Int) by omega]
  by_cases h1:i+1<b.length
  ·have h0:i<b.length:=by omega
   rw[zhN h1,cond_true,zZ h0,cond_true]
   simp only[yf,jr (u:=.u8) h0,jr (u:=.u8) h1,zZ h1,cond_true]
   rw[drop_one h0]
   have ih:=zsL N hb m (i+1) (by omega) (by omega)
   have hh:(b.drop (i+1)).head?=some b[i+1]:=by rw[List.head?_drop,yg h1]
   unfold ze6
   rw[hh]
   by_cases c1:b[i]=13
   ·by_cases c2:b[i+1]=10
    ·simp [c1,c2]
    ·rw[if_neg (by simp [c2]),ih]
     simp only[c1,beq_self_eq_true,cond_true,beq_eq_false_iff_ne.2 c2,cond_false]
     cases ze6 (b.drop (i+1)) with
     |none=>rfl
     |some e=>simp only[yW];congr 3;omega
   ·rw[if_neg (by simp [c1]),ih]
    simp only[beq_eq_false_iff_ne.2 c1,cond_false]
    cases ze6 (b.drop (i+1)) with
    |none=>rfl
    |some e=>simp only[yW];congr 3;omega
  ·rw[zhM h1,cond_false]
   have:ze6 (b.drop i)=none:=by
    cases he:ze6 (b.drop i) with
    |none=>rfl
    |some e=>have:=zlu he;rw[yk] at this;omega
   rw[this]
theorem ztN(N:Nat){b:List UInt8}(hb:b.length<=1000000)(hN:b.length<N){i:Nat}(hi:i<=b.length):zb6 N b (i:Int)=some (match ze6 (b.drop i) with|some e=>((i+e:Nat):Int)|none=>-1,()):=by
 unfold zb6
 rw[zsL N hb N i hi (by omega),ye]
 cases ze6 (b.drop i)<;>rfl
def dg(c:UInt8):Prop:=48<=c.toNat/\c.toNat<=57
instance (c:UInt8):Decidable (dg c):=inferInstanceAs (Decidable (_/\_))
theorem zqQ:∀ (l:List UInt8) (acc v:Nat),zjR acc l=some v->∀ c ∈ l,dg c
 | [],_,_,_,c,h=>by cases h
 |a::r,acc,v,h,c,hc=>by
  unfold zjR at h
  split at h
  ·rename_i hd
   rcases List.mem_cons.1 hc with rfl|hc
   ·exact hd
   ·exact zqQ r _ v h c hc
  ·cases h
theorem zui{s:List UInt8}{v:Nat}(h:zc6 s=some v):∀ c ∈ s,dg c:=by
 unfold zc6 at h
 split at h
 ·rename_i w hw
  exact zqQ s 0 w hw
 ·cases h
def zah(c:UInt8)(l:List UInt8):Nat->Option Nat
 |0=>none
 |k+1=>if l[k]?=some c then some k else zah c l k
theorem zal{c:UInt8}{l:List UInt8}:∀ {k j:Nat},zah c l k=some j->j<k/\l[j]?=some c/\∀ i,j<i->i<k->l[i]? ≠ some c
 |0,j,h=>by cases h
 |k+1,j,h=>by
  unfold zah at h
  split at h
  ·rename_i hc
   cases h
   exact⟨by omega,hc,fun i h1 h2=>by omega⟩
  ·rename_i hc
   obtain⟨h1,h2,h3⟩:=zal h
   refine⟨by omega,h2,fun i h4 h5=>?_⟩
   by_cases e:i=k
   ·subst e;exact hc
   ·exact h3 i h4 (by omega)
theorem zie{c:UInt8}{l:List UInt8}:∀ {k:Nat},zah c l k=none->∀ i,i<k->l[i]? ≠ some c
 |0,h,i,hi=>by omega
 |k+1,h,i,hi=>by
  unfold zah at h
  split at h
  ·cases h
  ·rename_i hc
   by_cases e:i=k
   ·subst e;exact hc
   ·exact zie h i (by omega)
def zl5(l:List UInt8):Nat->Nat
 |0=>0
 |k+1=>if ∃ c,l[k]?=some c/\dg c then zl5 l k else k+1
theorem zhh(l:List UInt8):∀ k,zl5 l k<=k/\(∀ j,zl5 l k<=j->j<k->∃ c,l[j]?=some c/\dg c)/\(∀ r,zl5 l k=r+1->¬ ∃ c,l[r]?=some c/\dg c)
 |0=>⟨yB _,fun j h h'=>by omega,fun r h=>by cases h⟩
 |k+1=>by
  obtain⟨h1,h2,h3⟩:=zhh l k
  unfold zl5
  split
  ·rename_i hc
   refine⟨by omega,fun j q1 q2=>?_,h3⟩
   by_cases e:j=k
   ·subst e;exact hc
   ·exact h2 j q1 (by omega)
  ·rename_i hc
   refine⟨yB _,fun j q1 q2=>by omega,fun r e=>?_⟩
   cases e;exact hc
theorem zus{l:List UInt8}{k j:Nat}(hj:j<=k)(h1:∀ i,j<=i->i<k->∃ c,l[i]?=some c/\dg c)(h2:∀ r,j=r+1->¬ ∃ c,l[r]?=some c/\dg c):zl5 l k=j:=by
 obtain⟨q1,q2,q3⟩:=zhh l k
 rcases vl (zl5 l k) j with h|h|h
 ·obtain⟨r,rfl⟩:∃ r,j=r+1:=⟨j-1,by omega⟩
  exact absurd (q2 r (by omega) (by omega)) (h2 r rfl)
 ·exact h
 ·obtain⟨r,hr⟩:∃ r,zl5 l k=r+1:=⟨zl5 l k-1,by omega⟩
  exact absurd (h1 r (by omega) (by omega)) (q3 r hr)
def znl(l:List UInt8):Option Nat:=if l.getLast?=some 125 then match zah 123 l (l.length-1) with
 |some j=>zc6 (slice l (j+1) (l.length-1))
 |none=>none
 else none
def zsB(o:Option Nat):Option (Int×Bool×Unit):=some (match o with
 |some v=>(((v:Nat):Int),true,())
 |none=>(0,false,()))
theorem zpE(s:List UInt8):zpD s=zsB (zc6 s):=rfl
theorem wrap32{v:Nat}(h:v<=4294967295):ya .i64 (v:Int)=v:=wri (by omega) (by omega)
theorem zpc(N:Nat){l:List UInt8}(hl:l.length<=1000000)(c:UInt8):∀ (k m:Nat),k<=l.length->k<m->zC N m l c ((k:Int)-1)=some (match zah c l k with|some j=>.inl (j:Int)|none=>.inr ())
 |0,m,_,h=>by
  obtain⟨m,rfl⟩:∃ q,m=q+1:=⟨m-1,by omega⟩
  unfold zC qu
  rw[show decide ((0:Int)<=((0:Nat):Int)-1)=false by decide]
  rfl
 |k+1,m,hk,h=>by
  obtain⟨m,rfl⟩:∃ q,m=q+1:=⟨m-1,by omega⟩
  have ih:=zpc N hl c k m (by omega) (by omega)
  unfold zC qu
  rw[show(((k+1:Nat):Int)-1)=((k:Nat):Int) by omega,decide_eq_true (by omega:(0:Int)<=(k:Int)),cond_true,zZ (by omega),cond_true,yf,jr (u:=.u8) (by omega:k<l.length),wri (by omega) (by omega),ih]
  rw[show zah c l (k+1)=if l[k]?=some c then some k else zah c l k from rfl,yg (by omega:k<l.length)]
  by_cases e:l[k]=c
  ·simp [e]
  ·rw[beq_eq_false_iff_ne.2 e,cond_false,if_neg (by simp [e])]
theorem zpd(N:Nat){l:List UInt8}(hl:l.length<=1000000)(hN:l.length<N)(c:UInt8):ji N l c=some (match zah c l l.length with|some j=>(j:Int)|none=>-1,()):=by
 unfold ji jE
 rw[wri (by omega) (by omega),zpc N hl c l.length N (yB _) hN,ye]
 cases zah c l l.length<;>rfl
theorem zif{c:UInt8}{l:List UInt8}{n:Nat}:∀ {k:Nat},k<=n->zah c (l.take n) k=zah c l k
 |0,_=>rfl
 |k+1,h=>by
  rw[show zah c (l.take n) (k+1)=if(l.take n)[k]?=some c then some k else zah c (l.take n) k from rfl,show zah c l (k+1)=if l[k]?=some c then some k else zah c l k from rfl,List.getElem?_take_of_lt (show k<n by omega),zif (by omega)]
theorem zmt(N:Nat){l:List UInt8}(hl:l.length<=1000000):wh N l [125]=some (if l.getLast?=some 125 then(l.take (l.length-1),true,()) else(l,false,())):=by
 unfold wh kP zb3
 cases hc:l.length with
 |zero=>
  have:l=[]:=yZ.1 hc
  subst this
  rfl
 |succ n=>
  have hw:ya .i64 (((n+1:Nat):Int)-(1:Int))=(n:Int):=by rw[show(((n+1:Nat):Int)-1)=(n:Int) by omega];exact wri (by omega) (by omega)
  have hd:ze l n=[l[n]'(by omega)]:=by
   rw[kD,drop_one (by omega),List.drop_of_length_le (by omega)]
  have hgl:l.getLast?=some (l[n]'(by omega)):=by rw[yX,show l.length-1=n by omega,yg]
  simp only[yP,List.length_nil,yU,hc]
  rw[show decide (((1:Nat):Int)<=((n+1:Nat):Int))=true by simp;omega,cond_true]
  simp only[show(((1:Nat):Int))=(1:Int) from rfl,hw,xI (show n<=l.length by omega),yv,cond_true,yf,hd,ye,hgl,Option.some.injEq]
  by_cases e:l[n]'(by omega)=125
  ·simp only[e,beq_self_eq_true,yn,cond_false,if_true]
   rw[show qZ (0:Int) (n:Int) (n+1)=true from qn (a:=0) (yL _) (by omega),ql]
   rfl
  ·have:([l[n]'(by omega)]==[(125:UInt8)])=false:=by simp [e]
   simp only[this,yx,cond_true,e,if_false]
theorem zq6(N:Nat){l:List UInt8}(hl:l.length<=100000)(hN:l.length<N)(hN2:10<=N):wk N l=zsB (znl l):=by
 unfold wk
 rw[zmt N (by omega),ye]
 unfold znl
 by_cases h:l.getLast?=some 125
 ·rw[if_pos h,if_pos h]
  have hlt:(l.take (l.length-1)).length=l.length-1:=by rw[yH];omega
  simp only[yn,cond_false]
  rw[zpd N (by omega) (by omega),hlt,zif (yB _),ye]
  cases hj:zah 123 l (l.length-1) with
  |none=>rfl
  |some j=>
   obtain⟨h1,h2,h3⟩:=zal hj
   simp only
   rw[decide_eq_false (by omega),cond_false,wri (by omega) (by omega),show((j:Int)+1)=((j+1:Nat):Int) by omega,xI (by omega),yf]
   simp only[yv,cond_true]
   have hs:ze (l.take (l.length-1)) (j+1)=slice l (j+1) (l.length-1):=by rw[kD,List.drop_take];rfl
   rw[hs,zjp N hN2 _ (by have:=@qQ _ l (j+1) (l.length-1);omega),zpE]
   cases hn:zc6 (slice l (j+1) (l.length-1)) with
   |none=>rfl
   |some v=>
    simp only[zsB,ye]
    rw[wrap32 (zjo hn)]
 ·rw[if_neg h,if_neg h]
  rfl
theorem zpX(N:Nat){l:List UInt8}(hl:l.length<=1000000)(x2:Int):∀ (k m:Nat),k<=l.length->k<m->qg N m l x2 (k:Int)=some (l,x2,((zl5 l k:Nat):Int))
 |0,m,_,h=>by
  obtain⟨m,rfl⟩:∃ q,m=q+1:=⟨m-1,by omega⟩
  rfl
 |k+1,m,hk,h=>by
  obtain⟨m,rfl⟩:∃ q,m=q+1:=⟨m-1,by omega⟩
  have ih:=zpX N hl x2 k m (by omega) (by omega)
  have hk':k<l.length:=by omega
  unfold qg kN
  rw[decide_eq_true (by omega:(0:Int)<((k+1:Nat):Int)),cond_true,wri (by omega) (by omega),show(((k+1:Nat):Int)-1)=(k:Int) by omega,zZ hk']
  simp only[cond_true,yf,jr (u:=.u8) hk',ih]
  rw[show zl5 l (k+1)=if ∃ c,l[k]?=some c/\dg c then zl5 l k else k+1 from rfl,yg hk']
  by_cases e1:(48:UInt8)<=l[k]
  ·by_cases e2:l[k]<=(57:UInt8)
   ·rw[if_pos ⟨_,rfl,e1,e2⟩]
    simp [e1,e2]
   ·rw[if_neg (fun⟨c,h1,h2⟩=>by cases h1;exact e2 h2.2)]
    simp [e1,e2]
  ·rw[if_neg (fun⟨c,h1,h2⟩=>by cases h1;exact e1 h2.1)]
   simp [e1]
theorem ztx(N:Nat){l:List UInt8}(hl:l.length<=100000)(hN:l.length<N)(hN2:20<=N):wm N l=zsB (znl l):=by
 unfold wm
 rw[wri (by omega) (by omega)]
 cases hc:l.length with
 |zero=>
  have:l=[]:=yZ.1 hc
  subst this
  rfl
 |succ n=>
  have hn:n<l.length:=by omega
  have hgl:l.getLast?=some (l[n]'(by omega)):=by rw[yX,show l.length-1=n by omega,yg]
  rw[show(((n+1:Nat):Int)-1)=(n:Int) by omega,decide_eq_false (by omega),cond_false,zZ (by omega),cond_true,yf,jr (u:=.u8) hn]
  unfold znl
  rw[hgl,hc,Nat.add_sub_cancel]
  by_cases e:l[n]'(by omega)=125
  ·obtain⟨r1,r2,r3⟩:=zhh l n
   rw[if_pos (by rw[e]),zpX N (by omega) _ n N (by omega) (by omega),ye]
   have hb:(l[n]'(by omega) != 125)=false:=by simp [e]
   rw[hb,cond_false]
   simp only
   rw[qn r1 (by omega),zl1 N hN2]
   simp only[yv,cond_true,yf]
   have key:∀ j v,zah 123 l n=some j->zc6 (slice l (j+1) n)=some v->zl5 l n=j+1:=fun j v hj hv=>by
    obtain⟨h1,h2,h3⟩:=zal hj
    have hd:=zui hv
    refine zus (by omega) (fun i q1 q2=>?_) fun r er=>?_
    ·have hi:i<l.length:=by omega
     refine⟨l[i],yg hi,hd _ ?_⟩
     rw[List.mem_iff_getElem?]
     refine⟨i-(j+1),?_⟩
     unfold slice
     rw[List.getElem?_take,if_pos (by omega),yJ,show j+1+(i-(j+1))=i by omega,yg hi]
    ·cases er
     rintro⟨c,h4,h5⟩
     rw[h2] at h4;cases h4
     exact absurd h5 (by decide)
   cases hv:zc6 (slice l (zl5 l n) n) with
   |none=>
    simp only[zpD,hv,ye,yx,cond_true]
    cases hj:zah 123 l n with
    |none=>rfl
    |some j=>
     simp only
     cases hw:zc6 (slice l (j+1) n) with
     |none=>rfl
     |some v=>
      rw[key j v hj hw,hw] at hv;cases hv
   |some v=>
    simp only[zpD,hv,ye,yn,cond_false]
    cases hr:zl5 l n with
    |zero=>
     rw[show(((0:Nat):Int)==0)=true from rfl,cond_true]
     cases hj:zah 123 l n with
     |none=>rfl
     |some j=>
      obtain⟨h1,h2,h3⟩:=zal hj
      obtain⟨c,h4,h5⟩:=r2 j (by omega) h1
      rw[h2] at h4;cases h4
      exact absurd h5 (by decide)
    |succ r=>
     have hrl:r<l.length:=by omega
     rw[show((((r+1:Nat):Int))==0)=false by simp;omega,cond_false,wri (by omega) (by omega),show(((r+1:Nat):Int)-1)=(r:Int) by omega,zZ (by omega),cond_true,yf,jr (u:=.u8) hrl]
     by_cases e3:l[r]=123
     ·have hj:zah 123 l n=some r:=by
       cases hj:zah 123 l n with
       |none=>exact absurd (by rw[yg hrl,e3]) (zie hj r (by omega))
       |some j=>
        obtain⟨h1,h2,h3⟩:=zal hj
        rcases vl j r with q|q|q
        ·exact absurd (by rw[yg hrl,e3]) (h3 r q (by omega))
        ·rw[q]
        ·obtain⟨c,h4,h5⟩:=r2 j (by omega) h1
         rw[h2] at h4;cases h4
         exact absurd h5 (by decide)
      rw[hj]
      simp only
      rw[hr] at hv
      have hb3:(l[r] != 123)=false:=by simp [e3]
      rw[hv,hb3,cond_false,wrap32 (zjo hv)]
      rfl
     ·have hb3:(l[r] != 123)=true:=by simp [e3]
      rw[hb3,cond_true]
      cases hj:zah 123 l n with
      |none=>rfl
      |some j=>
       simp only
       cases hw:zc6 (slice l (j+1) n) with
       |none=>rfl
       |some v'=>
        have:=key j v' hj hw
        rw[hr] at this;cases this
        obtain⟨h1,h2,h3⟩:=zal hj
        rw[yg hrl] at h2
        exact absurd (Option.some.inj h2) e3
  ·have hb:(l[n]'(by omega) != 125)=true:=by simp [e]
   rw[hb,cond_true,if_neg (by simp [e])]
   rfl
abbrev Frm:=Int×List UInt8
def zlo(b:List UInt8):Nat->Nat->List Frm×Option Nat
 |0,_=>([],none)
 |m+1,f=>if f<=b.length then match ze6 (b.drop f) with
  |none=>([],none)
  |some e=>if 8192<(slice b f (f+e)).length then([(3,(slice b f (f+e)).take 8192)],some (f+e+2)) else match znl (slice b f (f+e)) with
   |none=>([(1,b.take (f+e))],some (f+e+2))
   |some n=>if 65536<n then([(4,b.take (f+e))],some (f+e+2)) else((2,[])::(zlo b m (f+e+2+n)).1,(zlo b m (f+e+2+n)).2)
  else([],none)
theorem zcb(b:List UInt8){f:Nat}(h:b.length<f):∀ m,zlo b m f=([],none)
 |0=>rfl
 |m+1=>by unfold zlo;rw[if_neg (by omega)]
theorem zj7{b:List UInt8}{f e:Nat}(h:ze6 (b.drop f)=some e):f+e+2<=b.length:=by
 have:=zlu h;rw[yk] at this;omega
theorem zj0(b:List UInt8):∀ (m m' f:Nat),b.length<m+f->b.length<m'+f->zlo b m f=zlo b m' f
 |0,m',f,h,h'=>by rw[zcb b (by omega),zcb b (by omega)]
 |m+1,0,f,h,h'=>by rw[zcb b (by omega),zcb b (by omega)]
 |m+1,m'+1,f,h,h'=>by
  unfold zlo
  split
  ·cases he:ze6 (b.drop f) with
   |none=>rfl
   |some e=>
    simp only
    split
    ·rfl
    ·cases hn:znl (slice b f (f+e)) with
     |none=>rfl
     |some n=>simp only;rw[zj0 b m m' (f+e+2+n) (by omega) (by omega)]
  ·rfl
theorem ziN(b:List UInt8):∀ (m f:Nat),f<=b.length->(zlo b m f).1.length+f<=b.length/\∀ k,(zlo b m f).2=some k->(zlo b m f).1.length+f<=k/\f+2<=k/\k<=b.length
 |0,f,hf=>⟨by simp [zlo];omega,fun k h=>by cases h⟩
 |m+1,f,hf=>by
  unfold zlo
  rw[if_pos hf]
  cases he:ze6 (b.drop f) with
  |none=>exact⟨by simp;omega,fun k h=>by cases h⟩
  |some e=>
   have:=zj7 he
   simp only
   split
   ·exact⟨by simp;omega,fun k h=>by cases h;simp;omega⟩
   ·cases hn:znl (slice b f (f+e)) with
    |none=>exact⟨by simp;omega,fun k h=>by cases h;simp;omega⟩
    |some n=>
     simp only
     split
     ·exact⟨by simp;omega,fun k h=>by cases h;simp;omega⟩
     ·by_cases hg:f+e+2+n<=b.length
      ·obtain⟨h1,h2⟩:=ziN b m (f+e+2+n) hg
       exact⟨by simp only[yP];omega,fun k h=>by have:=h2 k h;simp only[yP];omega⟩
      ·rw[zcb b (by omega)]
       exact⟨by simp;omega,fun k h=>by cases h⟩
def zgf(b:List UInt8)(f:Nat):List Frm×Option Nat:=zlo b (b.length+1) f
theorem zoE(b:List UInt8){f:Nat}(hf:f<=b.length):zgf b f=match ze6 (b.drop f) with
  |none=>([],none)
  |some e=>if 8192<(slice b f (f+e)).length then([(3,(slice b f (f+e)).take 8192)],some (f+e+2)) else match znl (slice b f (f+e)) with
   |none=>([(1,b.take (f+e))],some (f+e+2))
   |some n=>if 65536<n then([(4,b.take (f+e))],some (f+e+2)) else((2,[])::(zgf b (f+e+2+n)).1,(zgf b (f+e+2+n)).2):=by
 unfold zgf
 rw[show zlo b (b.length+1) f=_ from rfl]
 conv=>lhs;unfold zlo
 rw[if_pos hf]
 cases he:ze6 (b.drop f) with
 |none=>rfl
 |some e=>
  simp only
  split
  ·rfl
  ·cases hn:znl (slice b f (f+e)) with
   |none=>rfl
   |some n=>simp only;rw[zj0 b b.length (b.length+1) (f+e+2+n) (by omega) (by omega)]
def zte:Nat->List UInt8->List Frm×Nat
 |0,b=>([],b.length)
 |m+1,b=>match(zgf b 0).2 with
  |none=>((zgf b 0).1,b.length)
  |some k=>((zgf b 0).1++(zte m (b.drop k)).1,(zte m (b.drop k)).2)
theorem zk8:∀ (m m':Nat) (b:List UInt8),b.length<m->b.length<m'->zte m b=zte m' b
 |0,_,b,h,_=>by omega
 |m+1,0,b,_,h=>by omega
 |m+1,m'+1,b,h,h'=>by
  unfold zte
  cases hc:(zgf b 0).2 with
  |none=>rfl
  |some k=>
   have:=(ziN b (b.length+1) 0 (yL _)).2 k hc
   simp only
   rw[zk8 m m' (b.drop k) (by rw[yk];omega) (by rw[yk];omega)]
def ze7(b:List UInt8):List Frm×Nat:=zte (b.length+1) b
def zbK(b:List UInt8)(f:Nat):List Frm×Nat:=match(zgf b f).2 with
 |none=>((zgf b f).1,b.length)
 |some k=>((zgf b f).1++(ze7 (b.drop k)).1,(ze7 (b.drop k)).2)
theorem zhs(b:List UInt8):ze7 b=zbK b 0:=by
 unfold ze7 zbK
 rw[show zte (b.length+1) b=_ from rfl]
 conv=>lhs;unfold zte
 cases hc:(zgf b 0).2 with
 |none=>rfl
 |some k=>
  have:=(ziN b (b.length+1) 0 (yL _)).2 k hc
  simp only
  unfold ze7
  rw[zk8 b.length ((b.drop k).length+1) (b.drop k) (by rw[yk];omega) (by omega)]
def zlq:(Int×List Frm) ⊕ List Frm->List Frm×Int
 |.inl a=>(a.2,a.1)
 |.inr b=>(b,-1)
def zra:Option Nat->Int
 |none=>-1
 |some k=>(k:Int)
theorem zoF(N:Nat){b:List UInt8}(hb:b.length<=20000)(hN:b.length<N)(hN2:20<=N):∀ (m f:Nat) (out:List Frm),0<m->b.length<m+f->out.length<=f->f<=200000->∃ o,qj N m b (f:Int) out=some o/\zlq o=(out++(zgf b f).1,zra (zgf b f).2)
 |0,f,out,hm,h,ho,hf2=>by omega
 |m+1,f,out,hm,h,ho,hf2=>by
  unfold qj xw
  by_cases hf:f<=b.length
  ·rw[decide_eq_true (by omega:(f:Int)<=((b.length:Nat):Int)),cond_true,ztN N (by omega) hN hf,ye,zoE b hf]
   cases he:ze6 (b.drop f) with
   |none=>exact⟨_,rfl,by simp [zlq,zra]⟩
   |some e=>
    have hle:=zj7 he
    have hsl:(slice b f (f+e)).length<=b.length:=qQ
    simp only
    rw[decide_eq_false (by omega),cond_false,qn (by omega) (by omega)]
    simp only[yv,cond_true,yf]
    have hlo:yq (out.length+1) qc=true:=xH (by omega)
    by_cases h8:8192<(slice b f (f+e)).length
    ·have hb2:qZ (0:Int) (8192:Int) (slice b f (f+e)).length=true:=qn (a:=0) (b:=8192) (by omega) (by omega)
     have hb3:yq (0+(slice (slice b f (f+e)) 0 8192).length) qc=true:=xH (by have:=@qQ _ (slice b f (f+e)) 0 8192;omega)
     rw[decide_eq_true (by omega),cond_true,hb2,hb3,hlo,if_pos h8]
     simp only[cond_true,yv]
     rw[wri (by omega) (by omega)]
     refine⟨_,rfl,?_⟩
     simp only[zlq,zra,ql,yo]
     congr 1
    ·rw[decide_eq_false (by omega),cond_false,ztx N (by omega) (by omega) hN2,if_neg h8]
     cases hn:znl (slice b f (f+e)) with
     |none=>
      have hb2:qZ (0:Int) ((f+e:Nat):Int) b.length=true:=qn (a:=0) (by omega) (by omega)
      have hb3:yq (0+(slice b 0 (f+e)).length) qc=true:=xH (by have:=@qQ _ b 0 (f+e);omega)
      simp only[zsB,ye,yx,cond_true,hb2,hb3,hlo,yv]
      rw[wri (by omega) (by omega)]
      refine⟨_,rfl,?_⟩
      simp only[zlq,zra,ql,yo]
      congr 1
     |some n=>
      simp only[zsB,ye,yn,cond_false]
      by_cases hn6:65536<n
      ·have hb2:qZ (0:Int) ((f+e:Nat):Int) b.length=true:=qn (a:=0) (by omega) (by omega)
       have hb3:yq (0+(slice b 0 (f+e)).length) qc=true:=xH (by have:=@qQ _ b 0 (f+e);omega)
       rw[decide_eq_true (by omega),cond_true,hb2,hb3,hlo,if_pos hn6]
       simp only[cond_true,yv]
       rw[wri (by omega) (by omega)]
       refine⟨_,rfl,?_⟩
       simp only[zlq,zra,ql,yo]
       congr 1
      ·rw[decide_eq_false (by omega),cond_false,hlo,cond_true,if_neg hn6,wri (x:=((f+e:Nat):Int)+2) (by omega) (by omega),wri (by omega) (by omega),show(((f+e:Nat):Int)+2+(n:Int))=((f+e+2+n:Nat):Int) by omega]
       obtain⟨o,h1,h2⟩:=zoF N hb hN hN2 m (f+e+2+n) (out++[(2,[])]) (by omega) (by omega) (by simp;omega) (by omega)
       exact⟨o,h1,by rw[h2];simp⟩
  ·rw[decide_eq_false (by omega),cond_false]
   refine⟨_,rfl,?_⟩
   unfold zgf
   rw[zcb b (by omega)]
   simp [zlq,zra]
theorem ztG(N:Nat){b:List UInt8}(hb:b.length<=20000)(hN:b.length<N)(hN2:20<=N):kr N b=some ((zgf b 0).1,zra (zgf b 0).2,()):=by
 unfold kr
 obtain⟨o,h1,h2⟩:=zoF N hb hN hN2 N 0 [] (by omega) (by omega) (by simp) (by omega)
 rw[show((0:Nat):Int)=0 from rfl] at h1
 rw[h1,ye]
 cases o<;>(simp only[zlq,yo,Prod.mk.injEq] at h2;simp only[zi,h2.1,h2.2])
theorem zk5(N C:Nat)(hC:C<=20000)(hN:C<N)(hN2:20<=N):∀ (m:Nat) (b:List UInt8) (out:List Frm),b.length<m->out.length+b.length<=C->qI N m b out=some (((ze7 b).2:Int),out++(ze7 b).1)
 |0,b,out,h,ho=>by omega
 |m+1,b,out,h,ho=>by
  have hok:=ziN b (b.length+1) 0 (yL _)
  change (zgf b 0).1.length+0<=b.length/\∀ k,(zgf b 0).2=some k->(zgf b 0).1.length+0<=k/\0+2<=k/\k<=b.length at hok
  obtain⟨hk1,hk2⟩:=hok
  unfold qI zaC
  rw[ztG N (by omega) (by omega) hN2,ye,zhs]
  unfold zbK
  have hb:yq (out.length+(zgf b 0).1.length) qc=true:=xH (by omega)
  simp only[hb,cond_true]
  cases hc:(zgf b 0).2 with
  |none=>simp only[zra];rfl
  |some k=>
   obtain⟨q1,q2,q3⟩:=hk2 k hc
   have hk0:¬ ((k:Int)<0):=by omega
   simp only[zra,hk0,decide_false,cond_false,xI q3,yv,cond_true,yf,kD]
   rw[zk5 N C hC hN hN2 m (b.drop k) _ (by rw[yk];omega) (by rw[List.length_append,yk];omega),yA]
theorem zqz(N:Nat){b:List UInt8}(hb:b.length<=20000)(hN:b.length<N)(hN2:20<=N):zaa N b=some ((ze7 b).1,((ze7 b).2:Int),()):=by
 unfold zaa
 rw[zk5 N b.length hb hN hN2 N b [] hN (by simp),ye,yo]
theorem ziY(N:Nat){b l:List UInt8}{at_ sk se:Int}(hb:b.length<=20000)(hl:l.length<=20000){k:Int}{n:Nat}(hn:n<=b.length):zP N (b,(at_,(sk,se))) k l (n:Int)=some ((b.drop n,(0,(0,0))),(k,l),true,()):=by
 unfold zP
 rw[ziM N l (by omega),ye]
 simp only[xI hn,yv,cond_true,yf,kD]
 rw[ziM N _ (by rw[yk];omega),ye]
def zqW(b:List UInt8)(f:Nat):Option (Frm×List UInt8×Nat×Nat):=match ze6 (b.drop f) with
 |none=>none
 |some e=>if 8192<(slice b f (f+e)).length then some ((3,(slice b f (f+e)).take 8192),b.drop (f+e+2),0,0) else match znl (slice b f (f+e)) with
  |none=>some ((1,b.take (f+e)),b.drop (f+e+2),0,0)
  |some n=>if 65536<n then some ((4,b.take (f+e)),b.drop (f+e+2),0,0) else some ((2,[]),b,f+e+2,n)
theorem zrL(N:Nat){b:List UInt8}{a s:Nat}{se:Int}(hb:b.length<=20000)(ha:a<=b.length)(hs:s<=100000)(hf:b.length<a+s):zE N (b,((a:Int),((s:Int),se)))=some ((b,((a:Int),((s:Int),se))),(0,[]),false,()):=by
 unfold zE qa
 simp only
 rw[wri (by omega) (by omega),decide_eq_true (by omega),cond_true,ye]
 rfl
theorem zkL(N:Nat){b:List UInt8}{a s:Nat}{se:Int}(hb:b.length<=20000)(hN:b.length<N)(hN2:20<=N)(hf:a+s<=b.length):match zqW b (a+s) with
  |none=>∃ se',zE N (b,((a:Int),((s:Int),se)))=some ((b,(((a+s:Nat):Int),((0:Int),se'))),(0,[]),false,())
  |some (fr,b',a',s')=>∃ se',zE N (b,((a:Int),((s:Int),se)))=some ((b',((a':Int),((s':Int),se'))),fr,true,()):=by
 have hlit:qa N (b,((a:Int),((s:Int),se)))=some ((b,(((a+s:Nat):Int),((0:Int),((a+s:Nat):Int)))),true,()):=by
  unfold qa
  simp only
  rw[wri (x:=((b.length:Nat):Int)-(a:Int)) (by omega) (by omega),decide_eq_false (by omega),cond_false,wri (by omega) (by omega)]
  rfl
 generalize hfq:a+s=f at *
 have hlen:(b.drop f).length<=20000:=by rw[yk];omega
 have hline:jl N (b,((f:Int),((0:Int),(f:Int))))=match ze6 (b.drop f) with
   |none=>some ((b,((f:Int),((0:Int),(if ya .i64 (((b.length:Nat):Int)-1) > (f:Int) then ya .i64 (((b.length:Nat):Int)-1) else(f:Int))))),(0:Int),false,())
   |some e=>some ((b,((f:Int),((0:Int),(f:Int)))),((f+e:Nat):Int),true,()):=by
  unfold jl
  have hl32:yS (b.drop f).length zcZ=true:=by simp [zcZ];omega
  simp only[xI hf,yv,cond_true,yf,kD,hl32,zkh]
  cases he:ze6 (b.drop f) with
  |none=>rfl
  |some e=>
   have:=zj7 he
   simp only
   rw[decide_eq_false (by omega),cond_false,wri (by omega) (by omega)]
   rfl
 unfold zE
 rw[hlit,ye]
 simp only[yn,cond_false]
 rw[hline]
 unfold zqW
 cases he:ze6 (b.drop f) with
 |none=>exact⟨_,rfl⟩
 |some e=>
  have hle:=zj7 he
  have hsl:(slice b f (f+e)).length<=b.length:=qQ
  simp only[ye,yn,cond_false]
  rw[qn (by omega) (by omega)]
  simp only[yv,cond_true,yf]
  rw[zq6 N (by omega) (by omega) (by omega)]
  have hw2:ya .i64 (((f+e:Nat):Int)+2)=((f+e+2:Nat):Int):=by rw[wri (by omega) (by omega)];omega
  have hb2:qZ (0:Int) ((f+e:Nat):Int) b.length=true:=qn (a:=0) (by omega) (by omega)
  by_cases h8:8192<(slice b f (f+e)).length
  ·have hb3:qZ (0:Int) (8192:Int) (slice b f (f+e)).length=true:=qn (a:=0) (b:=8192) (by omega) (by omega)
   simp only[zsB,ye,if_pos h8]
   rw[decide_eq_true (by omega),cond_true,hb3,hw2]
   simp only[yv,cond_true]
   rw[ziY N hb (by have:=@qQ _ (slice b f (f+e)) 0 8192;omega) (by omega),ye,ql]
   exact⟨_,rfl⟩
  ·simp only[zsB,ye,if_neg h8]
   rw[decide_eq_false (by omega),cond_false]
   cases hn:znl (slice b f (f+e)) with
   |none=>
    simp only[yx,cond_true,hb2,yv]
    rw[hw2,ziY N hb (by have:=@qQ _ b 0 (f+e);omega) (by omega),ye,ql]
    exact⟨_,rfl⟩
   |some n=>
    simp only[yn,cond_false]
    by_cases hn6:65536<n
    ·rw[decide_eq_true (by omega),cond_true,if_pos hn6]
     simp only[hb2,yv,cond_true]
     rw[hw2,ziY N hb (by have:=@qQ _ b 0 (f+e);omega) (by omega),ye,ql]
     exact⟨_,rfl⟩
    ·rw[decide_eq_false (by omega),cond_false,if_neg hn6,hw2]
     exact⟨_,rfl⟩
theorem zgO{b:List UInt8}{f:Nat}(h:b.length<f):zbK b f=([],b.length):=by
 unfold zbK zgf
 rw[zcb b h]
theorem zdd{b:List UInt8}{f:Nat}(hf:f<=b.length):zbK b f=match zqW b f with
  |none=>([],b.length)
  |some (fr,b',a',s')=>(fr::(zbK b' (a'+s')).1,(zbK b' (a'+s')).2):=by
 have fin:∀ (fr:Frm) (k:Nat),zgf b f=([fr],some k)->zbK b f=(fr::(zbK (b.drop k) (0+0)).1,(zbK (b.drop k) (0+0)).2):=fun fr k h=>by
  unfold zbK
  rw[h]
  simp only
  rw[zhs]
  rfl
 have hc:=zoE b hf
 unfold zqW
 cases he:ze6 (b.drop f) with
 |none=>
  rw[he] at hc
  unfold zbK
  rw[hc]
 |some e=>
  rw[he] at hc
  simp only at hc |-
  by_cases h8:8192<(slice b f (f+e)).length
  ·rw[if_pos h8] at hc |-
   exact fin _ _ hc
  ·rw[if_neg h8] at hc |-
   cases hn:znl (slice b f (f+e)) with
   |none=>rw[hn] at hc;exact fin _ _ hc
   |some n=>
    rw[hn] at hc
    simp only at hc |-
    by_cases h6:65536<n
    ·rw[if_pos h6] at hc |-
     exact fin _ _ hc
    ·rw[if_neg h6] at hc |-
     simp only
     unfold zbK
     rw[hc]
     simp only
     cases(zgf b (f+e+2+n)).2<;>rfl
theorem zey{b b':List UInt8}{f a' s':Nat}{fr:Frm}(h:zqW b f=some (fr,b',a',s')):b'.length<=b.length/\a'<=b'.length/\s'<=65536/\b'.length-(a'+s')+2<=b.length-f/\fr.2.length<=b.length/\∃ k,b'=b.drop k:=by
 unfold zqW at h
 cases he:ze6 (b.drop f) with
 |none=>rw[he] at h;cases h
 |some e=>
  have hle:=zj7 he
  have hsl:(slice b f (f+e)).length<=b.length:=qQ
  rw[he] at h
  simp only at h
  split at h
  ·cases h
   refine⟨by rw[yk];omega,yL _,by omega,by rw[yk];omega,by simp only[yH];omega,_,rfl⟩
  ·split at h
   ·cases h
    refine⟨by rw[yk];omega,yL _,by omega,by rw[yk];omega,by simp only[yH];omega,_,rfl⟩
   ·split at h
    ·cases h
     refine⟨by rw[yk];omega,yL _,by omega,by rw[yk];omega,by simp only[yH];omega,_,rfl⟩
    ·cases h
     refine⟨yB _,by omega,by omega,by omega,by simp,0,rfl⟩
theorem zk6(N C:Nat)(hC:C<=20000)(hN:20000<N):∀ (m:Nat) (b:List UInt8) (a s:Nat) (se:Int) (out:List Frm),b.length<=20000->a<=b.length->s<=65536->b.length-(a+s)<m->out.length+(b.length-(a+s))<=C ->
  ∃ b' a' s' se',qG N m b (a:Int) (s:Int) se out=some (b',a',s',se',out++(zbK b (a+s)).1)/\b'.length=(zbK b (a+s)).2
 |0,b,a,s,se,out,hb,ha,hs,h,ho=>by omega
 |m+1,b,a,s,se,out,hb,ha,hs,h,ho=>by
  unfold qG zau
  by_cases hf:a+s<=b.length
  ·have hp:=zkL N (se:=se) hb (by omega) (by omega) hf
   rw[zdd hf]
   cases hx:zqW b (a+s) with
   |none=>
    rw[hx] at hp
    obtain⟨se',hp⟩:=hp
    rw[hp]
    exact⟨_,_,_,_,by simp only[ye,yx,cond_true];rw[yQ],rfl⟩
   |some w=>
    obtain⟨fr,b',a',s'⟩:=w
    rw[hx] at hp
    obtain⟨se',hp⟩:=hp
    obtain⟨h1,h2,h3,h4,h5,_⟩:=zey hx
    have hlo:yq (out.length+1) qc=true:=xH (by omega)
    obtain⟨b2,a2,s2,se2,q1,q2⟩:=zk6 N C hC hN m b' a' s' se' (out++[fr]) (by omega) h2 h3 (by omega) (by simp;omega)
    refine⟨b2,a2,s2,se2,?_,q2⟩
    rw[hp]
    simp only[ye,yn,cond_false,hlo,cond_true]
    rw[q1,yA]
    rfl
  ·rw[zrL N hb ha (by omega) (by omega),zgO (by omega)]
   exact⟨_,_,_,_,by simp only[ye,yx,cond_true];rw[yQ],rfl⟩
theorem zn5(N:Nat){b:List UInt8}(hb:b.length<=20000)(hN:20000<N):xZ N b=some ((ze7 b).1,((ze7 b).2:Int),()):=by
 unfold xZ
 have hp:=zkL N (b:=b) (a:=0) (s:=0) (se:=0) hb (by omega) (by omega) (yL _)
 rw[show((0:Nat):Int)=0 from rfl] at hp
 have hlo:yq b.length qc=true:=xH (by omega)
 rw[hlo,cond_true,zhs,show zbK b 0=zbK b (0+0) from rfl,zdd (yL _)]
 cases hx:zqW b (0+0) with
 |none=>
  rw[hx] at hp
  obtain⟨se',hp⟩:=hp
  rw[hp]
  rfl
 |some w=>
  obtain⟨fr,b',a',s'⟩:=w
  rw[hx] at hp
  obtain⟨se',hp⟩:=hp
  obtain⟨h1,h2,h3,h4,h5,_⟩:=zey hx
  obtain⟨b2,a2,s2,se2,q1,q2⟩:=zk6 N 20000 (by omega) hN N b' a' s' se' [fr] (by omega) h2 h3 (by omega) (by simp;omega)
  rw[hp]
  simp only[ye,yn,cond_false]
  rw[q1]
  simp only[ye,jk,q2]
  rfl
theorem zh4:∀ (m:Nat) (b:List UInt8) (f:Nat),b.length-f<m->∀ fr ∈ (zbK b f).1,fr.2.length<=b.length
 |0,b,f,h=>by omega
 |m+1,b,f,h=>by
  by_cases hf:f<=b.length
  ·rw[zdd hf]
   cases hx:zqW b f with
   |none=>exact fun fr h=>by cases h
   |some w=>
    obtain⟨fr,b',a',s'⟩:=w
    obtain⟨h1,h2,h3,h4,h5,_⟩:=zey hx
    intro x hm
    rcases List.mem_cons.1 hm with rfl|hm
    ·exact h5
    ·exact yV (zh4 m b' (a'+s') (by omega) x hm) h1
  ·rw[zgO (by omega)];exact fun fr h=>by cases h
theorem zgP:∀ (m:Nat) (b:List UInt8) (f:Nat),b.length-f<m->(zbK b f).1.length<=b.length-f
 |0,b,f,h=>by omega
 |m+1,b,f,h=>by
  by_cases hf:f<=b.length
  ·rw[zdd hf]
   cases hx:zqW b f with
   |none=>simp
   |some w=>
    obtain⟨fr,b',a',s'⟩:=w
    obtain⟨h1,h2,h3,h4,h5,_⟩:=zey hx
    have:=zgP m b' (a'+s') (by omega)
    simp only[yP];omega
  ·rw[zgO (by omega)];simp
theorem zhr(b:List UInt8):∀ fr ∈ (ze7 b).1,fr.2.length<=b.length:=by rw[zhs];exact zh4 (b.length+1) b 0 (by omega)
theorem zfA(b:List UInt8):(ze7 b).1.length<=b.length:=by rw[zhs];exact zgP (b.length+1) b 0 (by omega)
abbrev Tok:=Int×(List UInt8×Int)
def wV(b:List UInt8)(i:Nat):Option (Tok×Nat):=
 match b[i]? with
 |none=>some ((0,[],(i:Int)),i)
 |some c=>
  if c=32 then some ((1,[],(i:Int)),i+1)
  else if c=40 then some ((2,[],(i:Int)),i+1)
  else if c=41 then some ((3,[],(i:Int)),i+1)
  else if c=34 then match sq (b.drop (i+1)) with
   |some (r,n)=>some ((5,r,(i:Int)),i+1+n)
   |none=>none
  else if c=123 then match posOf 125 (b.drop (i+1)) with
   |none=>none
   |some k=>match zc6 (slice b (i+1) (i+1+k)) with
    |none=>none
    |some n=>if n<=65536/\b[i+1+k+1]?=some 13/\b[i+1+k+2]?=some 10/\i+1+k+3+n<=b.length then some ((6,slice b (i+1+k+3) (i+1+k+3+n),(i:Int)),i+1+k+3+n) else none
  else if 0<run j1 (b.drop i) then some ((4,slice b i (i+run j1 (b.drop i)),(i:Int)),i+run j1 (b.drop i))
  else none
theorem zjm{b:List UInt8}{i n:Nat}{t:Tok}(hi:i<b.length)(h:wV b i=some (t,n)):i<n/\n<=b.length:=by
 unfold wV at h
 rw[yg hi] at h
 simp only at h
 split at h
 ·cases h;omega
 ·split at h
  ·cases h;omega
  ·split at h
   ·cases h;omega
   ·split at h
    ·split at h
     ·rename_i r k hr
      have:=znb _ hr
      rw[yk] at this
      cases h;omega
     ·cases h
    ·split at h
     ·split at h
      ·cases h
      ·rename_i k hk
       split at h
       ·cases h
       ·split at h
        ·rename_i hc
         cases h;omega
        ·cases h
     ·split at h
      ·have:=zis j1 (b.drop i)
       rw[yk] at this
       cases h;omega
      ·cases h
theorem zpV{b:List UInt8}{i:Nat}(hi:i<b.length)(hc:b[i]=34):zu0 b i=match sq (b.drop (i+1)) with
  |some (r,n)=>some (r,((i+1+n:Nat):Int),true,())
  |none=>some ([],0,false,()):=by
 unfold zu0
 rw[yg hi,hc,if_pos rfl]
 cases sq (b.drop (i+1)) with
 |none=>rfl
 |some p=>obtain⟨r,n⟩:=p;rfl
theorem zwJ(N:Nat)(b:List UInt8)(hb:b.length<=20000)(i:Nat):∀ (m p:Nat),p<=b.length->b.length<m+p ->
  qq N m ((i:Nat):Int) b ((p:Nat):Int)=some (((i:Nat):Int),b,((p+run j1 (b.drop p):Nat):Int))
 |0,p,h,h'=>by omega
 |m+1,p,h,h'=>by
  unfold qq xU
  by_cases hi:p<b.length
  ·simp only[zhN hi,cond_true,zZ hi,yf,jr (u:=.u8) hi,zxr,ye,drop_one hi,run]
   cases hc:j1 b[p] with
   |true=>
    simp only[cond_true,if_true]
    rw[wri (by omega) (by omega),show((p:Int)+1)=((p+1:Nat):Int) by omega,zwJ N b hb i m (p+1) (by omega) (by omega)]
    congr 4;omega
   |false=>simp
  ·simp only[zhM hi,cond_false]
   rw[yy (by omega)]
   simp [run]
theorem zs4(N:Nat)(b:List UInt8)(hb:b.length<=20000)(i:Nat):∀ (m p:Nat),p<=b.length->b.length<m+p ->
  ju N m b ((i:Nat):Int) ((p:Nat):Int)=some (b,((i:Nat):Int),((p+run j1 (b.drop p):Nat):Int))
 |0,p,h,h'=>by omega
 |m+1,p,h,h'=>by
  unfold ju zbC
  by_cases hi:p<b.length
  ·simp only[zhN hi,cond_true,zZ hi,yf,jr (u:=.u8) hi,zxs,ye,drop_one hi,run]
   cases hc:j1 b[p] with
   |true=>
    simp only[cond_true,if_true]
    rw[wri (by omega) (by omega),show((p:Int)+1)=((p+1:Nat):Int) by omega,zs4 N b hb i m (p+1) (by omega) (by omega)]
    congr 4;omega
   |false=>simp
  ·simp only[zhM hi,cond_false]
   rw[yy (by omega)]
   simp [run]
theorem zrM(N:Nat)(b:List UInt8)(hb:b.length<=20000)(hN:20<=N)(hN2:b.length<N)(i:Nat)(hi:i<=b.length):(∀ t n,wV b i=some (t,n)->xx N b (i:Int)=some (t,((n:Nat):Int),true,()))/\(wV b i=none->∃ t n,xx N b (i:Int)=some (t,n,false,())):=by
 unfold xx wV
 by_cases he:i=b.length
 ·subst he
  rw[yK (yB _)]
  simp only[show(((b.length:Nat):Int)==((b.length:Nat):Int))=true from beq_self_eq_true _,cond_true]
  exact⟨fun t n h=>by cases h;rfl,fun h=>by cases h⟩
 ·have hlt:i<b.length:=by omega
  have e:(((i:Nat):Int)==((b.length:Nat):Int))=false:=by simp;omega
  have w1:ya .i64 ((i:Int)+1)=((i+1:Nat):Int):=by rw[wri (by omega) (by omega)];omega
  rw[yg hlt]
  simp only[e,cond_false,zZ hlt,cond_true,yf,jr (u:=.u8) hlt,w1]
  cases h1:b[i]==(32:UInt8) with
  |true=>
   rw[beq_iff_eq] at h1
   rw[if_pos h1]
   exact⟨fun t n h=>by cases h;rfl,fun h=>by cases h⟩
  |false=>
   have h1':¬ b[i]=32:=by simpa using h1
   rw[if_neg h1']
   cases h2:b[i]==(40:UInt8) with
   |true=>
    rw[beq_iff_eq] at h2
    rw[if_pos h2]
    exact⟨fun t n h=>by cases h;rfl,fun h=>by cases h⟩
   |false=>
    have h2':¬ b[i]=40:=by simpa using h2
    rw[if_neg h2']
    cases h3:b[i]==(41:UInt8) with
    |true=>
     rw[beq_iff_eq] at h3
     rw[if_pos h3]
     exact⟨fun t n h=>by cases h;rfl,fun h=>by cases h⟩
    |false=>
     have h3':¬ b[i]=41:=by simpa using h3
     rw[if_neg h3']
     cases h4:b[i]==(34:UInt8) with
     |true=>
      rw[beq_iff_eq] at h4
      rw[if_pos h4]
      simp only[cond_false,cond_true,zun N b (by omega) hN2 i hlt,zpV hlt h4]
      cases hs:sq (b.drop (i+1)) with
      |none=>exact⟨fun t n h=>(by cases h),fun h=>⟨_,_,rfl⟩⟩
      |some p=>obtain⟨r,n⟩:=p;exact⟨fun t n h=>by cases h;rfl,fun h=>by cases h⟩
     |false=>
      have h4':¬ b[i]=34:=by simpa using h4
      rw[if_neg h4']
      cases h5:b[i]==(123:UInt8) with
      |true=>
       rw[beq_iff_eq] at h5
       rw[if_pos h5]
       simp only[cond_false,cond_true,zt3 N b hb hN hN2 i hlt h5]
       unfold zsR
       cases hp:posOf 125 (b.drop (i+1)) with
       |none=>exact⟨fun t n h=>(by cases h),fun h=>⟨_,_,rfl⟩⟩
       |some k=>
        cases hv:zc6 (slice b (i+1) (i+1+k)) with
        |none=>
         simp only[hv]
         exact⟨fun t n h=>(by cases h),fun h=>⟨_,_,rfl⟩⟩
        |some n=>
         simp only[hv]
         by_cases hc:n<=65536/\b[i+1+k+1]?=some 13/\b[i+1+k+2]?=some 10/\i+1+k+3+n<=b.length
         ·rw[if_pos hc,if_pos hc]
          exact⟨fun t n h=>by cases h;rfl,fun h=>by cases h⟩
         ·rw[if_neg hc,if_neg hc]
          exact⟨fun t n h=>(by cases h),fun h=>⟨_,_,rfl⟩⟩
      |false=>
       have h5':¬ b[i]=123:=by simpa using h5
       rw[if_neg h5']
       have hr:=zis j1 (b.drop i)
       rw[yk] at hr
       simp only[cond_false,zs4 N b hb i N i (by omega) (by omega),ye]
       generalize run j1 (b.drop i)=r at hr |-
       have hbn:qZ ((i:Nat):Int) ((i+r:Nat):Int) b.length=true:=qn (by omega) (by omega)
       simp only[hbn,yv,cond_true,yf]
       by_cases h0:0<r
       ·rw[if_pos h0]
        have:decide (((i:Nat):Int)<((i+r:Nat):Int))=true:=by simp;omega
        rw[this]
        exact⟨fun t n h=>by cases h;rfl,fun h=>by cases h⟩
       ·rw[if_neg h0]
        have:decide (((i:Nat):Int)<((i+r:Nat):Int))=false:=by simp;omega
        rw[this]
        exact⟨fun t n h=>(by cases h),fun h=>⟨_,_,rfl⟩⟩
def zaV(b:List UInt8):Nat->Nat->List Tok ⊕ Nat
 |0,i=>.inr i
 |f+1,i=>match wV b i with
  |none=>.inr i
  |some (t,n)=>if b.length<=i then .inl [t] else match zaV b f n with
   |.inl l=>.inl (t::l)
   |.inr a=>.inr a
theorem zvr{b:List UInt8}{i n:Nat}{t:Tok}(h:wV b i=some (t,n)):t.1=0↔b.length<=i:=by
 unfold wV at h
 by_cases hi:i<b.length
 ·rw[yg hi] at h
  simp only at h
  constructor
  ·intro h0
   exfalso
   split at h
   ·cases h;simp at h0
   ·split at h
    ·cases h;simp at h0
    ·split at h
     ·cases h;simp at h0
     ·split at h
      ·split at h<;>cases h;simp at h0
      ·split at h
       ·split at h
        ·cases h
        ·split at h
         ·cases h
         ·split at h<;>cases h;simp at h0
       ·split at h<;>cases h;simp at h0
  ·intro;omega
 ·rw[yK (by omega)] at h
  cases h
  exact⟨fun _=>by omega,fun _=>rfl⟩
def zu3(o:List Tok ⊕ Nat):Option ((List Tok)×Int×Unit):=some (match o with
 |.inl l=>(l,-1,())
 |.inr a=>([],((a:Nat):Int),()))
theorem zs3(N:Nat)(b:List UInt8)(hb:b.length<=20000)(hN:20<=N)(hN2:b.length<N):∀ (m i:Nat) (out:List Tok),i<=b.length->out.length<=i->b.length<m+i ->
  zU N m b ((i:Nat):Int) out=(match zaV b m i with
   |.inl l=>some (Sum.inr (out++l))
   |.inr a=>zU N m b ((i:Nat):Int) out)/\(∀ a,zaV b m i=.inr a->∃ o,zU N m b ((i:Nat):Int) out=some (Sum.inl (((a:Nat):Int),o)))
 |0,i,out,h,ho,h'=>by omega
 |m+1,i,out,h,ho,h'=>by
  obtain⟨n1,n2⟩:=zrM N b hb hN hN2 i h
  unfold zU xO zaV
  cases hn:wV b i with
  |none=>
   obtain⟨t,n,h3⟩:=n2 hn
   simp only[h3,ye,yx,cond_true]
   exact⟨trivial,fun a ha=>by cases ha;exact⟨_,rfl⟩⟩
  |some p=>
   obtain⟨t,n⟩:=p
   have h3:=n1 t n hn
   have hk:=zvr hn
   simp only[h3,ye,yn,cond_false,xH (show out.length+1<=200000 by omega),cond_true]
   by_cases hi:b.length<=i
   ·rw[if_pos hi]
    have:(t.1==(0:Int))=true:=by rw[beq_iff_eq];exact hk.2 hi
    simp only[this,cond_true]
    exact⟨by first|trivial|rfl,fun a ha=>by cases ha⟩
   ·rw[if_neg hi]
    have h0:(t.1==(0:Int))=false:=by
     cases e:t.1==(0:Int) with
     |false=>rfl
     |true=>rw[beq_iff_eq] at e;exact absurd (hk.1 e) hi
    have hl:=zjm (by omega) hn
    obtain⟨q1,q2⟩:=zs3 N b hb hN hN2 m n (out++[t]) (by omega) (by simp;omega) (by omega)
    simp only[h0,cond_false]
    cases hr:zaV b m n with
    |inl l=>
     rw[hr] at q1
     simp only at q1 |-
     refine⟨?_,fun a ha=>by cases ha⟩
     rw[q1,yA];rfl
    |inr a=>
     simp only
     exact⟨trivial,fun a' ha=>by cases ha;exact q2 a hr⟩
theorem zsr(N:Nat)(b:List UInt8)(hb:b.length<=20000)(hN:20<=N)(hN2:b.length<N):kZ N b=zu3 (zaV b N 0):=by
 unfold kZ zu3
 obtain⟨q1,q2⟩:=zs3 N b hb hN hN2 N 0 [] (by omega) (by simp) (by omega)
 rw[show((0:Nat):Int)=(0:Int) from rfl] at q1 q2
 cases hr:zaV b N 0 with
 |inl l=>
  rw[hr] at q1
  simp only at q1
  rw[q1];rfl
 |inr a=>
  obtain⟨o,h⟩:=q2 a hr
  rw[h];rfl
theorem zsZ(N:Nat)(b:List UInt8)(hb:b.length<=20000)(hN:20<=N)(hN2:b.length<N):∀ (m i:Nat) (out:List Tok),i<=b.length->out.length<=i->b.length<m+i ->
  (∀ l,zaV b m i=.inl l->∃ x y,zL N m b ((i:Nat):Int) out=some (Sum.inl (x,y,out++l)))/\(∀ a,zaV b m i=.inr a->∃ x y z,zL N m b ((i:Nat):Int) out=some (Sum.inr (((a:Nat):Int),x,y,z)))
 |0,i,out,h,ho,h'=>by omega
 |m+1,i,out,h,ho,h'=>by
  unfold zL xS zaV
  have recu:∀ (t:Tok) (n:Nat),wV b i=some (t,n)->i<b.length->(∀ l,(match wV b i with
    |none=>.inr i
    |some (t,n)=>if b.length<=i then .inl [t] else match zaV b m n with
     |.inl l=>.inl (t::l)
     |.inr a=>.inr a:List Tok ⊕ Nat)=.inl l->∃ x y,zL N m b ((n:Nat):Int) (out++[t])=some (Sum.inl (x,y,out++l)))/\(∀ a,(match wV b i with
    |none=>.inr i
    |some (t,n)=>if b.length<=i then .inl [t] else match zaV b m n with
     |.inl l=>.inl (t::l)
     |.inr a=>.inr a:List Tok ⊕ Nat)=.inr a->∃ x y z,zL N m b ((n:Nat):Int) (out++[t])=some (Sum.inr (((a:Nat):Int),x,y,z))):=by
   intro t n hn hlt
   have hl:=zjm hlt hn
   obtain⟨q1,q2⟩:=zsZ N b hb hN hN2 m n (out++[t]) (by omega) (by simp;omega) (by omega)
   rw[hn]
   simp only[if_neg (show ¬ b.length<=i by omega)]
   cases hr:zaV b m n with
   |inl l=>
    obtain⟨x,y,h3⟩:=q1 l hr
    exact⟨fun l' h=>by cases h;exact⟨x,y,by rw[h3,yA];rfl⟩,fun a h=>by cases h⟩
   |inr a=>
    obtain⟨x,y,z,h3⟩:=q2 a hr
    exact⟨fun l' h=>(by cases h),fun a' h=>by cases h;exact⟨x,y,z,h3⟩⟩
  have stop:wV b i=none->∀ (x:List UInt8) (y:Int) (z:List Tok),(∀ l,(match wV b i with
    |none=>.inr i
    |some (t,n)=>if b.length<=i then .inl [t] else match zaV b m n with
     |.inl l=>.inl (t::l)
     |.inr a=>.inr a:List Tok ⊕ Nat)=.inl l->∃ x' y',(some (Sum.inr (((i:Nat):Int),x,y,z)):Option ((List UInt8×Int×List Tok) ⊕ (Int×List UInt8×Int×List Tok)))=some (Sum.inl (x',y',out++l)))/\(∀ a,(match wV b i with
    |none=>.inr i
    |some (t,n)=>if b.length<=i then .inl [t] else match zaV b m n with
     |.inl l=>.inl (t::l)
     |.inr a=>.inr a:List Tok ⊕ Nat)=.inr a->∃ x' y' z',(some (Sum.inr (((i:Nat):Int),x,y,z)):Option ((List UInt8×Int×List Tok) ⊕ (Int×List UInt8×Int×List Tok)))=some (Sum.inr (((a:Nat):Int),x',y',z'))):=by
   intro hn x y z
   rw[hn]
   exact⟨fun l h=>(by cases h),fun a h=>by cases h;exact⟨_,_,_,rfl⟩⟩
  by_cases he:i=b.length
  ·subst he
   have hn:wV b b.length=some ((0,[],((b.length:Nat):Int)),b.length):=by unfold wV;rw[yK (yB _)]
   rw[hn]
   simp only[show(((b.length:Nat):Int)==((b.length:Nat):Int))=true from beq_self_eq_true _,cond_true,xH (show out.length+1<=200000 by omega),yB,if_true]
   exact⟨fun l h=>by cases h;exact⟨_,_,rfl⟩,fun a h=>by cases h⟩
  ·have hlt:i<b.length:=by omega
   have e:(((i:Nat):Int)==((b.length:Nat):Int))=false:=by simp;omega
   have w1:ya .i64 ((i:Int)+1)=((i+1:Nat):Int):=by rw[wri (by omega) (by omega)];omega
   have hg:b[i]?=some b[i]:=yg hlt
   simp only[e,cond_false,zZ hlt,cond_true,yf,jr (u:=.u8) hlt,w1,xH (show out.length+1<=200000 by omega)]
   cases h1:b[i]==(32:UInt8) with
   |true=>
    rw[beq_iff_eq] at h1
    exact recu _ _ (by unfold wV;rw[hg];simp only[h1,if_true]) hlt
   |false=>
    have h1':¬ b[i]=32:=by simpa using h1
    cases h2:b[i]==(40:UInt8) with
    |true=>
     rw[beq_iff_eq] at h2
     exact recu _ _ (by unfold wV;rw[hg];simp only[if_neg h1',if_pos h2]) hlt
    |false=>
     have h2':¬ b[i]=40:=by simpa using h2
     cases h3:b[i]==(41:UInt8) with
     |true=>
      rw[beq_iff_eq] at h3
      exact recu _ _ (by unfold wV;rw[hg];simp only[if_neg h1',if_neg h2',if_pos h3]) hlt
     |false=>
      have h3':¬ b[i]=41:=by simpa using h3
      cases h4:b[i]==(34:UInt8) with
      |true=>
       rw[beq_iff_eq] at h4
       simp only[cond_false,cond_true,zrQ N b (by omega) hN2 i hlt,zpV hlt h4]
       cases hs:sq (b.drop (i+1)) with
       |none=>
        simp only[ye,cond_false,yx,cond_true]
        exact stop (by unfold wV;rw[hg];simp only[if_neg h1',if_neg h2',if_neg h3',if_pos h4,hs]) _ _ _
       |some p=>
        obtain⟨r,n⟩:=p
        simp only[ye,cond_true,yn,cond_false]
        exact recu _ _ (by unfold wV;rw[hg];simp only[if_neg h1',if_neg h2',if_neg h3',if_pos h4,hs]) hlt
      |false=>
       have h4':¬ b[i]=34:=by simpa using h4
       cases h5:b[i]==(123:UInt8) with
       |true=>
        rw[beq_iff_eq] at h5
        simp only[cond_false,cond_true,zrq N b hb (by omega) i hlt h5]
        unfold zsR
        cases hp:posOf 125 (b.drop (i+1)) with
        |none=>
         simp only[ye,cond_false,yx,cond_true]
         exact stop (by unfold wV;rw[hg];simp only[if_neg h1',if_neg h2',if_neg h3',if_neg h4',if_pos h5,hp]) _ _ _
        |some k=>
         cases hv:zc6 (slice b (i+1) (i+1+k)) with
         |none=>
          simp only[hv,ye,cond_false,yx,cond_true]
          exact stop (by unfold wV;rw[hg];simp only[if_neg h1',if_neg h2',if_neg h3',if_neg h4',if_pos h5,hp,hv]) _ _ _
         |some n=>
          by_cases hc:n<=65536/\b[i+1+k+1]?=some 13/\b[i+1+k+2]?=some 10/\i+1+k+3+n<=b.length
          ·simp only[hv,if_pos hc,ye,cond_true,yn,cond_false]
           exact recu _ _ (by unfold wV;rw[hg];simp only[if_neg h1',if_neg h2',if_neg h3',if_neg h4',if_pos h5,hp,hv,if_pos hc]) hlt
          ·simp only[hv,if_neg hc,ye,cond_false,yx,cond_true]
           exact stop (by unfold wV;rw[hg];simp only[if_neg h1',if_neg h2',if_neg h3',if_neg h4',if_pos h5,hp,hv,if_neg hc]) _ _ _
       |false=>
        have h5':¬ b[i]=123:=by simpa using h5
        have hr:=zis j1 (b.drop i)
        rw[yk] at hr
        simp only[cond_false,zwJ N b hb i N i (by omega) (by omega),ye]
        have hbn:qZ ((i:Nat):Int) ((i+run j1 (b.drop i):Nat):Int) b.length=true:=qn (by omega) (by omega)
        simp only[hbn,yv,cond_true,yf]
        by_cases h0:0<run j1 (b.drop i)
        ·have:decide (((i:Nat):Int)<((i+run j1 (b.drop i):Nat):Int))=true:=by simp;omega
         simp only[this,yn,cond_false]
         exact recu _ _ (by unfold wV;rw[hg];simp only[if_neg h1',if_neg h2',if_neg h3',if_neg h4',if_neg h5',if_pos h0]) hlt
        ·have:decide (((i:Nat):Int)<((i+run j1 (b.drop i):Nat):Int))=false:=by simp;omega
         simp only[this,yx,cond_true]
         exact stop (by unfold wV;rw[hg];simp only[if_neg h1',if_neg h2',if_neg h3',if_neg h4',if_neg h5',if_neg h0]) _ _ _
theorem zqK(N:Nat)(b:List UInt8)(hb:b.length<=20000)(hN:20<=N)(hN2:b.length<N):k8 N b=zu3 (zaV b N 0):=by
 unfold k8 zu3
 obtain⟨q1,q2⟩:=zsZ N b hb hN hN2 N 0 [] (by omega) (by simp) (by omega)
 rw[show((0:Nat):Int)=(0:Int) from rfl] at q1 q2
 cases hr:zaV b N 0 with
 |inl l=>
  obtain⟨x,y,h⟩:=q1 l hr
  rw[h];rfl
 |inr a=>
  obtain⟨x,y,z,h⟩:=q2 a hr
  rw[h];rfl
end Go.Proofs.Model
